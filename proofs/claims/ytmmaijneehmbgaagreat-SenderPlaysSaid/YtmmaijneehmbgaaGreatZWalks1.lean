import Derived.Test.YtmmaijneehmbgaaGreatZMir
import Derived.Test.YtmmaijneehmbgaaGreatConQ
import Derived.Test.YtmmaijneehmbgaaGreatConA6
import Derived.Eval
import Derived.Test.YtmmaijneehmbgaaGreatZShelf
set_option linter.all false
set_option autoImplicit true
set_option maxRecDepth 10000
set_option maxHeartbeats 20000000
namespace Go.Proofs.YtmmaijneehmbgaaGreat
open Go Go.Sp Tryz
theorem name_small.c (h:name_small.f a0=some r):Pt prog 99 [eq (.int .u8 a0)] (vB r):=by
 unfold name_small.f at h
 refine pb func99 ntmps99 h fun R0 F H=>?_
 refine WP.seq<|rg 1 0<|as0 rfl rfl<|.fin<|WP.seq<|rg 15 0<|mv0 rfl rfl<|bn0 rfl rfl rfl run_ge<|mv0 rfl rfl ?_
 cases c1:decide (97≤a0)
 ·
  have H:=H.cf c1
  refine sk rfl rfl<|sk rfl rfl<|pf0 rfl rfl rfl<|mv0 rfl rfl<|mvg rfl rfl rfl<|bng rfl rfl rfl rfl run_ge<|mvg rfl rfl rfl ?_
  cases c4:decide (48≤a0)
  ·
   have H:=H.cf c4
   refine sk rfl rfl<|sk rfl rfl<|pfg rfl rfl rfl rfl<|pf0 rfl rfl rfl<|as0 rfl rfl<|.fin ?_
   cases H.out; exact r0 i2 rfl (.cons (res_tmp rfl) .nil)
  have H:=H.ct c4
  refine mvg rfl rfl rfl<|bng rfl rfl rfl rfl run_le<|ptg rfl rfl rfl rfl<|pf0 rfl rfl rfl<|as0 rfl rfl<|.fin ?_
  cases H.out; exact r0 i2 rfl (.cons (res_tmp rfl) .nil)
 have H:=H.ct c1
 refine mvg rfl rfl rfl<|bng rfl rfl rfl rfl run_le<|pt0 rfl rfl rfl<|mv0 rfl rfl ?_
 cases c2:decide (a0≤122)
 rotate_left
 ·
  have H:=H.ct c2
  refine sk rfl rfl<|sk rfl rfl<|sk rfl rfl<|sku rfl rfl<|sku rfl rfl<|sk rfl rfl<|pt0 rfl rfl rfl<|as0 rfl rfl<|.fin ?_
  cases H.out; exact r0 i2 rfl (.cons (res_tmp rfl) .nil)
 have H:=H.cf c2
 refine mvg rfl rfl rfl<|bng rfl rfl rfl rfl run_ge<|mvg rfl rfl rfl ?_
 cases c3:decide (48≤a0)
 ·
  have H:=H.cf c3
  refine sk rfl rfl<|sk rfl rfl<|pfg rfl rfl rfl rfl<|pf0 rfl rfl rfl<|as0 rfl rfl<|.fin ?_
  cases H.out; exact r0 i2 rfl (.cons (res_tmp rfl) .nil)
 have H:=H.ct c3
 refine mvg rfl rfl rfl<|bng rfl rfl rfl rfl run_le<|ptg rfl rfl rfl rfl<|pf0 rfl rfl rfl<|as0 rfl rfl<|.fin ?_
 cases H.out; exact r0 i2 rfl (.cons (res_tmp rfl) .nil)
theorem stringslite_IndexByte.c (h:stringslite_IndexByte.f a0 a1=some r):Pt prog 168 [vS a0,eq (.int .u8 a1)] (vI r):=by
 unfold stringslite_IndexByte.f at h
 refine pb func168 ntmps168 h fun R0 F H=>?_
 refine WP.seq<|rg 1 0<|as0 rfl rfl<|.fin<|WP.seq<|rg 4 0<|mv0 rfl rfl<|mv0 rfl rfl<|Dv.cext rfl trivial rfl (xt_index func181 (by kernel_rfl) rfl xf181 xg181)<|as0 rfl rfl<|.fin ?_
 cases H.out; exact r0 i2 rfl (.cons (res_tmp rfl) .nil)
theorem strings_IndexByte.c (h:strings_IndexByte.f a0 a1=some r):Pt prog 156 [vS a0,eq (.int .u8 a1)] (vI r):=by
 unfold strings_IndexByte.f at h
 refine pb func156 ntmps156 h fun R0 F H=>?_
 refine WP.seq<|rg 1 0<|as0 rfl rfl<|.fin<|WP.seq<|rg 4 0<|mv0 rfl rfl<|mv0 rfl rfl<|el H fun t5 h6 H=>cl rfl cal168 rfl (stringslite_IndexByte.c h6)<|as0 rfl rfl<|.fin ?_
 cases H.out; exact r0 i2 rfl (.cons (res_tmp rfl) .nil)
theorem name_among_1.c {c0:ByteArray} (h:name_among_1.f a0 c0=some r):Pt prog 155 [eq (.int .u8 a0),rp [vS c0]] (vB r):=by
 unfold name_among_1.f at h
 refine pb func155 ntmps155 h fun R0 F H=>?_
 refine WP.seq<|rg 1 0<|as0 rfl rfl<|.fin<|WP.seq<|rg 9 0<|mv0 rfl rfl<|el H fun t7 h8 H=>cl rfl cal99 rfl (name_small.c h8)<|mv0 rfl rfl ?_
 cases c9:t7
 rotate_left
 ·
  have H:=H.ct c9
  refine sk rfl rfl<|sk rfl rfl<|sk rfl rfl<|sk rfl rfl<|pt0 rfl rfl rfl<|as0 rfl rfl<|.fin ?_
  cases H.out; exact r0 i2 rfl (.cons (res_tmp rfl) .nil)
 have H:=H.cf c9
 refine ldR rfl (gg rfl) rfl sc9 rfl<|mvg rfl rfl rfl<|el H fun t10 h11 H=>Dv.call rfl (gg rfl) cal156 rfl (strings_IndexByte.c h11)<|bng rfl rfl rfl rfl run_ge<|pf0 rfl rfl rfl<|as0 rfl rfl<|.fin ?_
 cases H.out; exact r0 i2 rfl (.cons (res_tmp rfl) .nil)
theorem name_among.c (h:name_among.f a0=some r):Pt prog 127 [vS a0] (fq_uint8_bool r):=by
 unfold name_among.f at h
 refine pb func127 ntmps127 h fun R0 F H=>?_
 refine WP.seq<|rg 2 1<|Dv.box rfl trivial rfl cE nofun fun b12=>as0 rfl rfl<|.fin<|WP.seq<|rg 2 0<|Dv.gh (gh_frzb (E':=[(0,vS a0),(1,rp [vS a0]),(2,eq .nilFunc)]) (l':=F) 0 rfl (cve_cons rfl cv_id (cve_cons rfl cv_eq (cve_cons rfl cv_id cve_nil))) (all2_app .nil fun _=>cva_id)) (fun _ _=>?_)
 refine Dv.mkf (Q:=fqQ_uint8_bool (fun a0_=>name_among_1.f a0_ a0)) cal155 (by rintro _ _ ⟨a0_,r_,h_,rfl,rfl⟩; exact name_among_1.c h_) rfl trivial rfl rfl<|as0 rfl rfl<|.fin ?_
 cases H.out; exact r0 i2 rfl (.cons (res_tmp rfl) .nil)
theorem name_may.c (h:name_may.f k a0 a1=some r):Pt prog 98 [vS a0,vI a1] (vB r):=by
 unfold name_may.f at h
 refine pb func98 ntmps98 h fun R0 F H=>?_
 refine WP.seq<|rg 1 0<|as0 rfl rfl<|.fin<|WP.seq<|rg 7 0<|el H fun t13 h14 H=>cl rfl cal127 rfl (name_among.c h14)<|el H fun t15 h16 H=>cl rfl cal127 rfl (name_among.c h16)<|el H fun t17 h18 H=>cl rfl cal127 rfl (name_among.c h18)<|Dv.blda (qs:=[fq_uint8_bool t13,fq_uint8_bool t15,fq_uint8_bool t17]) (css:=[[fq_uint8_bool t13],[fq_uint8_bool t15],[fq_uint8_bool t17]]) rfl trivial underlying192 underlying129 c129 z192 rfl ⟨(cells_one one_fnq),⟨(cells_one one_fnq),⟨(cells_one one_fnq),trivial⟩⟩⟩ rfl rfl<|mv0 rfl rfl<|gr H fun g19 H=>Dv.ixa (Kd:=fK_uint8_bool) (xs:=([t13,t15,t17]:List (Int→Option Bool))) rfl trivial rfl rfl rfl underlying192 underlying129 rfl c129 rfl rfl g19.1 g19.2 rfl<|as0 rfl rfl<|.fin<|WP.seqr H id (fun p20:Int×Bool=>[(0,vS a0),(1,vI a1),(4,vB false),(5,fq_uint8_bool (fK_uint8_bool.at ([t13,t15,t17]:List (Int→Option Bool)) a1)),(14,vI (a0.size:Int)),(15,vI p20.1),(16,vB p20.2)]) (fun p20:Int×Bool=>F) (fun p20 H=>?_) (fun H=>?_)
 ·
  refine WP.seq<|rg 8 0<|mv0 rfl rfl<|bn0 rfl rfl rfl run_sne<|mv0 rfl rfl ?_
  cases c21:!decide (a0=(⟨#[]⟩:ByteArray))
  ·
   have H:=H.cf c21
   refine sk rfl rfl<|sk rfl rfl<|sk rfl rfl<|pf0 rfl rfl rfl<|as0 rfl rfl<|.fin ?_
   cases H.out; exact r0 i2 rfl (.cons (res_tmp rfl) .nil)
  have H:=H.ct c21
  refine mvg rfl rfl rfl<|Dv.lens rfl (gg rfl) rfl underlying9<|bng rfl rfl rfl rfl run_le<|pt0 rfl rfl rfl<|as0 rfl rfl<|.fin ?_
  cases H.out; exact r0 i2 rfl (.cons (res_tmp rfl) .nil)
 refine WP.seq<|rg 3 0<|mv0 rfl rfl<|Dv.lens rfl trivial rfl underlying9<|mv0 rfl rfl<|.fin<|WP.block<|wg (sg 0 [] 0) fun _ _=>?_
 refine lp (fun j_ (p29:Int)=>name_may.l0 k a0 a1 t13 t15 t17 j_ p29) 0 H (fun p29=>[(0,vS a0),(1,vI a1),(4,vB false),(5,fq_uint8_bool (fK_uint8_bool.at ([t13,t15,t17]:List (Int→Option Bool)) a1)),(14,vI (a0.size:Int)),(15,vI p29)]) (fun p29=>F) ?_
 rintro j_ x22 H
 rcases j_ with _ | j28
 ·
  exact (Gets.no H).elim
 try dsimp only at H
 rw [name_may.l0] at H
 refine WP.seq<|rg 1 0<|bn0 rfl rfl rfl run_lt<|.fin<|WP.seq<|cd H rfl (fun _ H=>?_) (fun _ H=>?_)
 rotate_left
 ·
  refine WP.exit ?_
  have H:=H.out
  exact jn (x22,decide (x22<(a0.size:Int))) H
 refine WP.skip<|WP.seq<|WP.block<|WP.seq<|rg 2 0<|mv0 rfl rfl<|as0 rfl rfl<|.fin<|WP.seq<|rg 6 0<|mv0 rfl rfl<|mv0 rfl rfl<|mv0 rfl rfl<|gr H fun g24 H=>Dv.ixs rfl trivial rfl rfl underlying9 g24.1 g24.2<|el H fun t25 h26 H=>Dv.callq (ret:=vB t25) rfl trivial rfl rfl ⟨_,_,h26,rfl,rfl⟩<|un0 rfl rfl (run_not _)<|.fin<|cd H rfl (fun _ H=>?_) (fun _ H=>?_)
 rotate_left
 ·
  exact WP.skip<|rg 2 0<|bn0 rfl rfl rfl run_add<|mv0 rfl rfl<|.fin<|bk j28 (w64 (x22+1)) H
 refine WP.seq<|rg 1 0<|as0 rfl rfl<|.fin ?_
 have H:=H.outr
 cases H.out; exact r0 i2 rfl (.cons (res_tmp rfl) .nil)
theorem name_Server.c (h:name_Server.f k a0=some r):Pt prog 59 [vS a0] (vB r):=by
 unfold name_Server.f at h
 refine pb func59 ntmps59 h fun R0 F H=>?_
 refine WP.seq<|rg 1 0<|as0 rfl rfl<|.fin<|WP.seq<|rg 16 0<|mv0 rfl rfl<|el H fun t30 h31 H=>cl rfl cal98 rfl (name_may.c h31)<|mv0 rfl rfl ?_
 cases c32:t30
 ·
  have H:=H.cf c32
  refine sk rfl rfl<|sk rfl rfl<|sk rfl rfl<|pf0 rfl rfl rfl<|mv0 rfl rfl<|sk rfl rfl<|sk rfl rfl<|sk rfl rfl<|sk rfl rfl<|sk rfl rfl<|sk rfl rfl<|pf0 rfl rfl rfl<|as0 rfl rfl<|.fin ?_
  cases H.out; exact r0 i2 rfl (.cons (res_tmp rfl) .nil)
 have H:=H.ct c32
 refine mvg rfl rfl rfl<|gr H fun g33 H=>Dv.ixs rfl (gg rfl) rfl rfl underlying9 g33.1 g33.2<|el H fun t34 h35 H=>Dv.call rfl (gg rfl) cal99 rfl (name_small.c h35)<|pt0 rfl rfl rfl<|mv0 rfl rfl ?_
 cases c36:t34
 ·
  have H:=H.cf c36
  refine sk rfl rfl<|sk rfl rfl<|sk rfl rfl<|sk rfl rfl<|sk rfl rfl<|sk rfl rfl<|pf0 rfl rfl rfl<|as0 rfl rfl<|.fin ?_
  cases H.out; exact r0 i2 rfl (.cons (res_tmp rfl) .nil)
 have H:=H.ct c36
 refine mvg rfl rfl rfl<|mvg rfl rfl rfl<|Dv.lens rfl (gg rfl) rfl underlying9<|bng rfl rfl rfl rfl run_sub<|gr H fun g37 H=>Dv.ixs rfl (gg rfl) rfl rfl underlying9 g37.1 g37.2<|el H fun t38 h39 H=>Dv.call rfl (gg rfl) cal99 rfl (name_small.c h39)<|pt0 rfl rfl rfl<|as0 rfl rfl<|.fin ?_
 cases H.out; exact r0 i2 rfl (.cons (res_tmp rfl) .nil)
theorem queue_New.c (h:queue_New.f a0=some r):Tr prog 60 [vI a0] [] (γ:=OV) (fun _=>True) (fun g=>tup [eq g.1,vI r.2]) (fun g=>[optO SQue.O g r.1]):=by
 unfold queue_New.f at h
 refine tb func60 ntmps60 h fun R0 F H=>?_
 refine WP.seq<|rg 2 0<|as0 rfl rfl<|as0 rfl rfl<|.fin<|WP.seq<|WP.seq<|rg 6 0<|mv0 rfl rfl<|bn0 rfl rfl rfl run_lt<|mv0 rfl rfl ?_
 rcases bem (decide (a0<1)) with c40 | c40
 rotate_left
 ·
  have H:=H.ct c40
  refine Dv.gh (gh_sh 5 c40 rfl) (fun _ _=>?_)
  refine Dv.gh (gh_sh 6 c40 rfl) (fun _ _=>?_)
  refine sk rfl rfl<|sk rfl rfl<|pt0 rfl rfl rfl<|.fin<|WP.cond rfl (fun _=>?_) nofun
  refine WP.seq<|rg 2 0<|as0 rfl rfl<|as0 rfl rfl<|.fin<|wg (st_nilP (O:=SQue.O)) fun _ _=>?_
  obtain rfl:=Gets.out H
  exact rt i2 rfl nilP 1 [0] 0 (.cons (res_tmp rfl) (.cons (res_tmp rfl) .nil))
 have H:=H.cf c40
 refine Dv.gh (gh_sh 5 c40 rfl) (fun _ _=>?_)
 refine Dv.gh (gh_sh 6 c40 rfl) (fun _ _=>?_)
 refine mvg rfl rfl rfl<|bng rfl rfl rfl rfl run_gt<|pf0 rfl rfl rfl<|.fin<|cd H rfl (fun _ H=>?_) (fun _ H=>?_)
 ·
  refine WP.seq<|rg 2 0<|as0 rfl rfl<|as0 rfl rfl<|.fin<|wg (st_nilP (O:=SQue.O)) fun _ _=>?_
  obtain rfl:=Gets.out H
  exact rt i2 rfl nilP 1 [0] 0 (.cons (res_tmp rfl) (.cons (res_tmp rfl) .nil))
 refine WP.skip<|WP.seq<|rg 6 10<|mv0 rfl rfl<|Dv.mmk EKey.kv (fun x:Edu=>agg (Edu.enc x)) rfl trivial nofun (fun v43=>?_)
 refine Dv.bld (qs:=[vI a0,eq (.slice none 0 0),eq v43.1,vI 0]) (css:=[[vI a0],[eq v43.1]]) rfl trivial underlying107 pl107 z107 rfl ⟨(cells_one (one_eq rfl)),⟨(cells_one one_ov),trivial⟩⟩ rfl rfl<|Dv.box rfl trivial rfl cA nofun fun b44=>as0 rfl rfl<|as0 rfl rfl<|.fin<|wg (st_nil EKey.K none) fun _ _=>?_
 refine wg (SQue.shut (p:=(⟨.pointer (some ⟨b44,0,none⟩),rfl⟩:OV)) (m:=(⟨a0,([]:List EKey),([]:List (EKey×Edu)),0⟩:SQue)) (b44,nilV,v43) rfl (pm 3 [1,0,2])) fun _ _=>?_
 obtain rfl:=Gets.out H
 exact rt i2 rfl (⟨.pointer (some ⟨b44,0,none⟩),rfl⟩:OV) 1 [0] 0 (.cons (res_tmp rfl) (.cons (res_tmp rfl) .nil))
theorem atomic_Int64_Store.c {b off:Nat} {bT:TypeId} {qs:Cs} {m:Int} (h0:off<qs.length):Tr prog 100 [eq (.pointer (some ⟨b,off,none⟩)),vI m] [blk b bT qs] (γ:=Unit) (fun _=>True) (fun _=>tup []) (fun _=>[blk b bT (qs.set off (vI m))]):=by
 exact Tr.body func100 (c:=_) rfl ntmps100 (Nat.le_of_ble_eq_true rfl) fun R0 F=>WP.reg [(0,false),(1,false),(2,false),(3,false),(4,true)] (by kernel_rfl)<|mv0 rfl rfl<|Dv.nilp rfl trivial rfl<|fb rfl trivial rfl fa171_2<|mv0 rfl rfl<|Dv.cextb (jj:=0) (qs:=qs) rfl trivial rfl (xt_store h0 func128 (by kernel_rfl) rfl xf128 xg128) rfl nofun<|.fin<|re rfl () 1 [0] 0 .nil
theorem clock_New.c (h:clock_New.f a0 a1=some r):Tr prog 61 [vI a0,vI a1] [] (γ:=OV) (fun _=>True) (fun g=>tup [eq g.1,vI r.2]) (fun g=>[optO Ctr.O g r.1]):=by
 unfold clock_New.f at h
 refine tb func61 ntmps61 h fun R0 F H=>?_
 refine WP.seq<|rg 2 0<|as0 rfl rfl<|as0 rfl rfl<|.fin<|WP.seq<|WP.seq<|rg 15 0<|mv0 rfl rfl<|bn0 rfl rfl rfl run_lt<|mv0 rfl rfl ?_
 cases c45:decide (a1<1)
 rotate_left
 ·
  have H:=H.ct c45
  refine sk rfl rfl<|sk rfl rfl<|pt0 rfl rfl rfl<|mv0 rfl rfl<|sk rfl rfl<|sk rfl rfl<|pt0 rfl rfl rfl<|mv0 rfl rfl<|sk rfl rfl<|sk rfl rfl<|sk rfl rfl<|pt0 rfl rfl rfl<|.fin<|WP.cond rfl (fun _=>?_) nofun
  refine WP.seq<|rg 2 0<|as0 rfl rfl<|as0 rfl rfl<|.fin<|wg (st_nilP (O:=Ctr.O)) fun _ _=>?_
  obtain rfl:=Gets.out H
  exact rt i2 rfl nilP 1 [0] 0 (.cons (res_tmp rfl) (.cons (res_tmp rfl) .nil))
 have H:=H.cf c45
 refine mvg rfl rfl rfl<|bng rfl rfl rfl rfl run_gt<|pf0 rfl rfl rfl<|mv0 rfl rfl ?_
 cases c47:decide (1099511627776<a1)
 rotate_left
 ·
  have H:=H.ct c47
  refine sk rfl rfl<|sk rfl rfl<|pt0 rfl rfl rfl<|mv0 rfl rfl<|sk rfl rfl<|sk rfl rfl<|sk rfl rfl<|pt0 rfl rfl rfl<|.fin<|WP.cond rfl (fun _=>?_) nofun
  refine WP.seq<|rg 2 0<|as0 rfl rfl<|as0 rfl rfl<|.fin<|wg (st_nilP (O:=Ctr.O)) fun _ _=>?_
  obtain rfl:=Gets.out H
  exact rt i2 rfl nilP 1 [0] 0 (.cons (res_tmp rfl) (.cons (res_tmp rfl) .nil))
 have H:=H.cf c47
 refine mvg rfl rfl rfl<|bng rfl rfl rfl rfl run_lt<|pf0 rfl rfl rfl<|mv0 rfl rfl ?_
 cases c49:decide (a0<0)
 rotate_left
 ·
  have H:=H.ct c49
  refine sk rfl rfl<|sk rfl rfl<|sk rfl rfl<|pt0 rfl rfl rfl<|.fin<|WP.cond rfl (fun _=>?_) nofun
  refine WP.seq<|rg 2 0<|as0 rfl rfl<|as0 rfl rfl<|.fin<|wg (st_nilP (O:=Ctr.O)) fun _ _=>?_
  obtain rfl:=Gets.out H
  exact rt i2 rfl nilP 1 [0] 0 (.cons (res_tmp rfl) (.cons (res_tmp rfl) .nil))
 have H:=H.cf c49
 refine mvg rfl rfl rfl<|mvg rfl rfl rfl<|bng rfl rfl rfl rfl run_gt<|pf0 rfl rfl rfl<|.fin<|cd H rfl (fun _ H=>?_) (fun _ H=>?_)
 ·
  refine WP.seq<|rg 2 0<|as0 rfl rfl<|as0 rfl rfl<|.fin<|wg (st_nilP (O:=Ctr.O)) fun _ _=>?_
  obtain rfl:=Gets.out H
  exact rt i2 rfl nilP 1 [0] 0 (.cons (res_tmp rfl) (.cons (res_tmp rfl) .nil))
 refine WP.skip<|WP.seq<|rg 4 4<|mv0 rfl rfl<|Dv.bld (qs:=[vI 0,vI a1]) (css:=[[vI a1]]) rfl trivial underlying173 pl173 z173 rfl ⟨(cells_one (one_eq rfl)),trivial⟩ rfl rfl<|Dv.box rfl trivial rfl cA nofun fun b52=>as0 rfl rfl<|.fin<|WP.seq<|rg 5 16<|mv0 rfl rfl<|Dv.nilp rfl trivial rfl<|fb rfl trivial rfl fa173_0<|mv0 rfl rfl<|cx 1 [0] cal100 (atomic_Int64_Store.c (b:=b52) (off:=0) (bT:=173) (qs:=[vI 0,vI a1]) (m:=a0) (Nat.le_of_ble_eq_true rfl)) nofun fun _ _=>?_
 refine .fin<|WP.seq<|rg 3 0<|mv0 rfl rfl<|as0 rfl rfl<|as0 rfl rfl<|.fin<|wg (Ctr.shut (p:=(⟨.pointer (some ⟨b52,0,none⟩),rfl⟩:OV)) (m:=(⟨(⟨a0⟩:AtI),a1⟩:Ctr)) b52 rfl (pm 1 [0])) fun _ _=>?_
 obtain rfl:=Gets.out H
 exact rt i2 rfl (⟨.pointer (some ⟨b52,0,none⟩),rfl⟩:OV) 1 [0] 0 (.cons (res_tmp rfl) (.cons (res_tmp rfl) .nil))
theorem sender_New.c (h:sender_New.f k a0 a1 a2 a3=some r):Tr prog 23 [vS a0,vS a1,vI a2,vI a3] [] (γ:=OV) (fun _=>True) (fun g=>tup [eq g.1,vI r.2]) (fun g=>[optO SSnd.O g r.1]):=by
 unfold sender_New.f at h
 refine tb func23 ntmps23 h fun R0 F H=>?_
 refine WP.seq<|rg 2 0<|as0 rfl rfl<|as0 rfl rfl<|.fin<|WP.seq<|WP.seq<|rg 13 0<|mv0 rfl rfl<|el H fun t53 h54 H=>cl rfl cal59 rfl (name_Server.c h54)<|un0 rfl rfl (run_not _)<|mv0 rfl rfl ?_
 rcases bem (!t53) with c55 | c55
 rotate_left
 ·
  have H:=H.ct c55
  refine Dv.gh (gh_sh 15 c55 rfl) (fun _ _=>?_)
  refine Dv.gh (gh_sh 16 c55 rfl) (fun _ _=>?_)
  refine sk rfl rfl<|sk rfl rfl<|sk rfl rfl<|pt0 rfl rfl rfl<|mv0 rfl rfl<|sk rfl rfl<|sk rfl rfl<|sk rfl rfl<|pt0 rfl rfl rfl<|.fin<|WP.cond rfl (fun _=>?_) nofun
  refine WP.seq<|rg 2 0<|as0 rfl rfl<|as0 rfl rfl<|.fin<|wg (st_nilP (O:=SSnd.O)) fun _ _=>?_
  obtain rfl:=Gets.out H
  exact rt i2 rfl nilP 1 [0] 0 (.cons (res_tmp rfl) (.cons (res_tmp rfl) .nil))
 have H:=H.cf c55
 refine Dv.gh (gh_sh 15 c55 rfl) (fun _ _=>?_)
 refine Dv.gh (gh_sh 16 c55 rfl) (fun _ _=>?_)
 refine mvg rfl rfl rfl<|el H fun t57 h58 H=>Dv.call rfl (gg rfl) cal59 rfl (name_Server.c h58)<|ung rfl rfl rfl (run_not _)<|pf0 rfl rfl rfl<|mv0 rfl rfl ?_
 rcases bem (!t57) with c59 | c59
 rotate_left
 ·
  have H:=H.ct c59
  refine Dv.gh (gh_sh 19 c59 rfl) (fun _ _=>?_)
  refine Dv.gh (gh_sh 20 c59 rfl) (fun _ _=>?_)
  refine Dv.gh (gh_sh 21 c59 rfl) (fun _ _=>?_)
  refine sk rfl rfl<|sk rfl rfl<|sk rfl rfl<|pt0 rfl rfl rfl<|.fin<|WP.cond rfl (fun _=>?_) nofun
  refine WP.seq<|rg 2 0<|as0 rfl rfl<|as0 rfl rfl<|.fin<|wg (st_nilP (O:=SSnd.O)) fun _ _=>?_
  obtain rfl:=Gets.out H
  exact rt i2 rfl nilP 1 [0] 0 (.cons (res_tmp rfl) (.cons (res_tmp rfl) .nil))
 have H:=H.cf c59
 refine Dv.gh (gh_sh 19 c59 rfl) (fun _ _=>?_)
 refine Dv.gh (gh_sh 20 c59 rfl) (fun _ _=>?_)
 refine Dv.gh (gh_sh 21 c59 rfl) (fun _ _=>?_)
 refine mvg rfl rfl rfl<|mvg rfl rfl rfl<|bng rfl rfl rfl rfl run_seq<|pf0 rfl rfl rfl<|.fin<|cd H rfl (fun _ H=>?_) (fun _ H=>?_)
 ·
  refine WP.seq<|rg 2 0<|as0 rfl rfl<|as0 rfl rfl<|.fin<|wg (st_nilP (O:=SSnd.O)) fun _ _=>?_
  obtain rfl:=Gets.out H
  exact rt i2 rfl nilP 1 [0] 0 (.cons (res_tmp rfl) (.cons (res_tmp rfl) .nil))
 refine WP.skip<|WP.seq<|rg 7 2<|mv0 rfl rfl<|el H fun t62 h63 H=>cx 0 [] cal60 (queue_New.c h63) nofun fun g64 _=>?_
 refine mv0 rfl rfl<|ex0 rfl trivial rfl rfl<|ex0 rfl trivial rfl rfl<|as0 rfl rfl<|as0 rfl rfl<|.fin<|WP.seq<|WP.seq<|rg 2 0<|mv0 rfl rfl<|bn0 rfl rfl rfl run_ne<|.fin<|cd H rfl (fun _ H=>?_) (fun _ H=>?_)
 ·
  refine WP.seq<|rg 3 0<|mv0 rfl rfl<|as0 rfl rfl<|as0 rfl rfl<|.fin<|wg (st_nilP (O:=SSnd.O)) fun _ _=>?_
  obtain rfl:=Gets.out H
  exact rt i2 rfl nilP 2 [1,0] 1 (.cons (res_tmp rfl) (.cons (res_tmp rfl) .nil))
 refine WP.skip<|WP.seq<|rg 7 2<|mv0 rfl rfl<|el H fun t66 h67 H=>cx 1 [0] cal61 (clock_New.c h67) nofun fun g68 _=>?_
 refine mv0 rfl rfl<|ex0 rfl trivial rfl rfl<|ex0 rfl trivial rfl rfl<|as0 rfl rfl<|as0 rfl rfl<|.fin<|WP.seq<|WP.seq<|rg 2 0<|mv0 rfl rfl<|bn0 rfl rfl rfl run_ne<|.fin<|cd H rfl (fun _ H=>?_) (fun _ H=>?_)
 ·
  refine WP.seq<|rg 3 0<|mv0 rfl rfl<|as0 rfl rfl<|as0 rfl rfl<|.fin<|wg (st_nilP (O:=SSnd.O)) fun _ _=>?_
  obtain rfl:=Gets.out H
  exact rt i2 rfl nilP 3 [1,2,0] 2 (.cons (res_tmp rfl) (.cons (res_tmp rfl) .nil))
 refine WP.skip<|WP.seq<|rg 8 32<|mv0 rfl rfl<|mv0 rfl rfl<|mv0 rfl rfl<|mv0 rfl rfl<|gr H fun g70 H=>vg (opt_some 1 rfl (isN g70)) fun _ _=>?_
 refine gr H fun g71 H=>vg (opt_some 1 rfl (isN g71)) fun _ _=>?_
 refine Dv.bld (qs:=[eq g64.1,vS a0,vS a1,eq g68.1,eq (.pointer none)]) (css:=[[eq g64.1],[vS a0],[vS a1],[eq g68.1]]) rfl trivial underlying40 pl40 z40 rfl ⟨(cells_one one_ov),⟨(cells_one (one_eq rfl)),⟨(cells_one (one_eq rfl)),⟨(cells_one one_ov),trivial⟩⟩⟩⟩ rfl rfl<|Dv.box rfl trivial rfl cA nofun fun b72=>as0 rfl rfl<|as0 rfl rfl<|.fin<|wg (st_nilP (O:=Fly.O)) fun _ _=>?_
 refine wg (SSnd.shut (p:=(⟨.pointer (some ⟨b72,0,none⟩),rfl⟩:OV)) (m:=(⟨t62.1.getD default,a0,a1,t66.1.getD default,none⟩:SSnd)) (b72,g64,g68,nilP) rfl (pm 4 [1,3,2,0])) fun _ _=>?_
 obtain rfl:=Gets.out H
 exact rt i2 rfl (⟨.pointer (some ⟨b72,0,none⟩),rfl⟩:OV) 1 [0] 0 (.cons (res_tmp rfl) (.cons (res_tmp rfl) .nil))
theorem w18_begin.c (h:w18_begin.f k a0 a1=some r):Tr prog 9 [vI a0,vI a1] [] (γ:=OV) (fun _=>True) (fun g=>eq g.1) (fun g=>[optO SSnd.O g r]):=by
 unfold w18_begin.f at h
 refine tb func9 ntmps9 h fun R0 F H=>?_
 refine WP.seq<|rg 1 0<|as0 rfl rfl<|.fin<|WP.seq<|rg 8 4<|mv0 rfl rfl<|mv0 rfl rfl<|el H fun t73 h74 H=>cx 0 [] cal23 (sender_New.c h74) nofun fun g75 _=>?_
 refine mv0 rfl rfl<|ex0 rfl trivial rfl rfl<|ex0 rfl trivial rfl rfl<|as0 rfl rfl<|as0 rfl rfl<|.fin<|WP.seq<|WP.seq<|rg 6 0<|mv0 rfl rfl<|Dv.oeq0 (fun _=>SSnd.nn) rfl trivial rfl rfl underlying24 (mem_at 0 rfl)<|mv0 rfl rfl ?_
 rcases bem t73.1.isNone with c76 | c76
 rotate_left
 ·
  have H:=H.ct c76
  refine Dv.gh (gh_sh 14 c76 rfl) (fun _ _=>?_)
  refine Dv.gh (gh_sh 15 c76 rfl) (fun _ _=>?_)
  refine sk rfl rfl<|sk rfl rfl<|pt0 rfl rfl rfl<|.fin<|WP.cond rfl (fun _=>?_) nofun
  refine WP.seq<|rg 1 0<|as0 rfl rfl<|.fin<|wg (st_nilP (O:=SSnd.O)) fun _ _=>?_
  obtain rfl:=Gets.out H
  exact rt i2 rfl nilP 2 [1,0] 1 (.cons (res_tmp rfl) .nil)
 have H:=H.cf c76
 refine Dv.gh (gh_sh 14 c76 rfl) (fun _ _=>?_)
 refine Dv.gh (gh_sh 15 c76 rfl) (fun _ _=>?_)
 refine mvg rfl rfl rfl<|bng rfl rfl rfl rfl run_ne<|pf0 rfl rfl rfl<|.fin<|cd H rfl (fun _ H=>?_) (fun _ H=>?_)
 ·
  refine WP.seq<|wg (opt_some 0 rfl c76) fun _ _=>?_
  refine rg 1 0<|as0 rfl rfl<|.fin<|wg (st_nilP (O:=SSnd.O)) fun _ _=>?_
  obtain rfl:=Gets.out H
  exact rt i2 rfl nilP 2 [1,0] 1 (.cons (res_tmp rfl) .nil)
 refine WP.skip<|WP.seq<|WP.seq<|wg (opt_some 0 rfl c76) fun _ _=>?_
 refine rg 5 0<|mv0 rfl rfl<|Dv.nilA SSnd.nn rfl trivial rfl (mem_at 0 rfl)<|vg (SSnd.opn 0 rfl) fun g79 h80=>?_
 refine fp h80 rfl trivial rfl fa40_0<|ld 0 rfl trivial rfl sc36 rfl rfl<|Dv.peq0 SQue.nn rfl trivial rfl rfl underlying36 (mem_at 1 rfl)<|.fin<|WP.cond rfl nofun (fun _=>?_)
 refine WP.skip<|WP.seq<|rg 2 0<|mv0 rfl rfl<|as0 rfl rfl<|.fin<|wg (SSnd.shut (p:=g75) (m:=t73.1.getD default) (g79.1,g79.2.1,g79.2.2.1,g79.2.2.2) h80 (pm 4 [0,1,2,3])) fun _ _=>?_
 obtain rfl:=Gets.out H
 exact rt i2 rfl g75 1 [0] 0 (.cons (res_tmp rfl) .nil)
theorem view_New.c (h:view_New.f=some r):Tr prog 10 [] [] (γ:=OV) (fun _=>True) (fun g=>eq g.1) (fun g=>[VView.O g r]):=by
 unfold view_New.f at h
 refine tb func10 ntmps10 h fun R0 F H=>?_
 refine WP.seq<|rg 1 0<|as0 rfl rfl<|.fin<|WP.seq<|rg 4 5<|Dv.mmk Value.string (fun p:OV=>eq p.1) rfl trivial nofun (fun v82=>?_)
 refine vg (mpo_new DDag.O) fun _ _=>?_
 refine Dv.bld (qs:=[eq v82.1]) (css:=[[eq v82.1]]) rfl trivial underlying95 pl95 z95 rfl ⟨(cells_one one_ov),trivial⟩ rfl rfl<|Dv.box rfl trivial rfl cA nofun fun b83=>as0 rfl rfl<|.fin<|wg (VView.shut (p:=(⟨.pointer (some ⟨b83,0,none⟩),rfl⟩:OV)) (m:=(⟨([]:List (ByteArray×DDag))⟩:VView)) (b83,v82) rfl (pm 2 [0,1])) fun _ _=>?_
 obtain rfl:=Gets.out H
 exact rt i2 rfl (⟨.pointer (some ⟨b83,0,none⟩),rfl⟩:OV) 1 [0] 0 (.cons (res_tmp rfl) .nil)
theorem r01_Around.c (h:r01_Around.f a0 a1=some r):Pt prog 12 [vI a0,vI a1] (vI r):=by
 unfold r01_Around.f at h
 refine pb func12 ntmps12 h fun R0 F H=>?_
 refine WP.seq<|rg 1 0<|as0 rfl rfl<|.fin<|WP.seq<|WP.seq<|rg 2 0<|mv0 rfl rfl<|bn0 rfl rfl rfl run_lt<|.fin<|cd H rfl (fun _ H=>?_) (fun _ H=>?_)
 rotate_left
 ·
  refine WP.skip<|WP.seq<|rg 4 0<|mv0 rfl rfl<|mv0 rfl rfl<|gr H fun g86 H=>bn0 rfl rfl rfl (run_rem g86)<|as0 rfl rfl<|.fin ?_
  cases H.out; exact r0 i2 rfl (.cons (res_tmp rfl) .nil)
 refine rg 4 0<|mv0 rfl rfl<|bn0 rfl rfl rfl run_add<|un0 rfl rfl (run_neg _ _)<|as0 rfl rfl<|.fin<|WP.seq<|rg 4 0<|mv0 rfl rfl<|mv0 rfl rfl<|gr H fun g85 H=>bn0 rfl rfl rfl (run_rem g85)<|as0 rfl rfl<|.fin ?_
 cases H.out; exact r0 i2 rfl (.cons (res_tmp rfl) .nil)
theorem r01_RoomOf.c (h:r01_RoomOf.f a0=some r):Pt prog 26 [vI a0] (vS r):=by
 unfold r01_RoomOf.f at h
 refine pb func26 ntmps26 h fun R0 F H=>?_
 refine WP.seq<|rg 1 0<|as0 rfl rfl<|.fin<|WP.seq<|rg 6 0<|Dv.lit strK ([(⟨#[33,114,58,115,49]⟩:ByteArray),(⟨#[33,113,58,115,50]⟩:ByteArray)]:List ByteArray) (css:=[[vS (⟨#[33,114,58,115,49]⟩:ByteArray)],[vS (⟨#[33,113,58,115,50]⟩:ByteArray)]]) rfl trivial underlying53 underlying9 c9 z9 rfl (by decide) (by decide) rfl ⟨(cells_one (one_eq rfl)),⟨(cells_one (one_eq rfl)),trivial⟩⟩ rfl rfl rfl<|mv0 rfl rfl<|el H fun t87 h88 H=>cl rfl cal12 rfl (r01_Around.c h88)<|gr H fun g89 H=>Dv.ixr rfl trivial rfl rfl underlying53 underlying9 c9 g89.1 g89.2<|ldR rfl trivial rfl sc9 rfl<|as0 rfl rfl<|.fin ?_
 cases H.out; exact r0 i2 rfl (.cons (res_tmp rfl) .nil)
theorem r01_ServerOf.c (h:r01_ServerOf.f a0=some r):Pt prog 65 [vI a0] (vS r):=by
 unfold r01_ServerOf.f at h
 refine pb func65 ntmps65 h fun R0 F H=>?_
 refine WP.seq<|rg 1 0<|as0 rfl rfl<|.fin<|WP.seq<|rg 6 0<|Dv.lit strK ([(⟨#[115,49]⟩:ByteArray),(⟨#[115,50]⟩:ByteArray),(⟨#[115,51]⟩:ByteArray)]:List ByteArray) (css:=[[vS (⟨#[115,49]⟩:ByteArray)],[vS (⟨#[115,50]⟩:ByteArray)],[vS (⟨#[115,51]⟩:ByteArray)]]) rfl trivial underlying53 underlying9 c9 z9 rfl (by decide) (by decide) rfl ⟨(cells_one (one_eq rfl)),⟨(cells_one (one_eq rfl)),⟨(cells_one (one_eq rfl)),trivial⟩⟩⟩ rfl rfl rfl<|mv0 rfl rfl<|el H fun t90 h91 H=>cl rfl cal12 rfl (r01_Around.c h91)<|gr H fun g92 H=>Dv.ixr rfl trivial rfl rfl underlying53 underlying9 c9 g92.1 g92.2<|ldR rfl trivial rfl sc9 rfl<|as0 rfl rfl<|.fin ?_
 cases H.out; exact r0 i2 rfl (.cons (res_tmp rfl) .nil)
theorem r01_UserOf.c (h:r01_UserOf.f a0=some r):Pt prog 27 [vI a0] (vS r):=by
 unfold r01_UserOf.f at h
 refine pb func27 ntmps27 h fun R0 F H=>?_
 refine WP.seq<|rg 1 0<|as0 rfl rfl<|.fin<|WP.seq<|rg 3 0<|mv0 rfl rfl<|el H fun t93 h94 H=>cl rfl cal12 rfl (r01_Around.c h94)<|as0 rfl rfl<|.fin<|WP.seq<|dg Tryz.checked.mixed 10 0<|Dv.lit strK ([(⟨#[64,97,58]⟩:ByteArray),(⟨#[64,98,58]⟩:ByteArray),(⟨#[64,99,58]⟩:ByteArray)]:List ByteArray) (css:=[[vS (⟨#[64,97,58]⟩:ByteArray)],[vS (⟨#[64,98,58]⟩:ByteArray)],[vS (⟨#[64,99,58]⟩:ByteArray)]]) rfl trivial underlying53 underlying9 c9 z9 rfl (by decide) (by decide) rfl ⟨(cells_one (one_eq rfl)),⟨(cells_one (one_eq rfl)),⟨(cells_one (one_eq rfl)),trivial⟩⟩⟩ rfl rfl rfl<|mv0 rfl rfl<|bn0 rfl rfl rfl (run_quo (by decide))<|gr H fun g95 H=>Dv.ixr rfl trivial rfl rfl underlying53 underlying9 c9 g95.1 g95.2<|ldR rfl trivial rfl sc9 rfl<|mv0 rfl rfl<|bn0 rfl rfl rfl (run_rem (by decide))<|el H fun t96 h97 H=>cl rfl cal65 rfl (r01_ServerOf.c h97)<|gr H fun g98 H=>bn0 rfl rfl rfl (run_cat g98)<|as0 rfl rfl<|.fin ?_
 cases H.out; exact r0 i2 rfl (.cons (res_tmp rfl) .nil)
theorem r01_low.c (h:r01_low.f a0=some r):Pt prog 62 [eq (.int .u8 a0)] (vB r):=by
 unfold r01_low.f at h
 refine pb func62 ntmps62 h fun R0 F H=>?_
 refine WP.seq<|rg 1 0<|as0 rfl rfl<|.fin<|WP.seq<|rg 15 0<|mv0 rfl rfl<|bn0 rfl rfl rfl run_ge<|mv0 rfl rfl ?_
 cases c99:decide (97≤a0)
 ·
  have H:=H.cf c99
  refine sk rfl rfl<|sk rfl rfl<|pf0 rfl rfl rfl<|mv0 rfl rfl<|mvg rfl rfl rfl<|bng rfl rfl rfl rfl run_ge<|mvg rfl rfl rfl ?_
  cases cc:decide (48≤a0)
  ·
   have H:=H.cf cc
   refine sk rfl rfl<|sk rfl rfl<|pfg rfl rfl rfl rfl<|pf0 rfl rfl rfl<|as0 rfl rfl<|.fin ?_
   cases H.out; exact r0 i2 rfl (.cons (res_tmp rfl) .nil)
  have H:=H.ct cc
  refine mvg rfl rfl rfl<|bng rfl rfl rfl rfl run_le<|ptg rfl rfl rfl rfl<|pf0 rfl rfl rfl<|as0 rfl rfl<|.fin ?_
  cases H.out; exact r0 i2 rfl (.cons (res_tmp rfl) .nil)
 have H:=H.ct c99
 refine mvg rfl rfl rfl<|bng rfl rfl rfl rfl run_le<|pt0 rfl rfl rfl<|mv0 rfl rfl ?_
 cases ce:decide (a0≤122)
 rotate_left
 ·
  have H:=H.ct ce
  refine sk rfl rfl<|sk rfl rfl<|sk rfl rfl<|sku rfl rfl<|sku rfl rfl<|sk rfl rfl<|pt0 rfl rfl rfl<|as0 rfl rfl<|.fin ?_
  cases H.out; exact r0 i2 rfl (.cons (res_tmp rfl) .nil)
 have H:=H.cf ce
 refine mvg rfl rfl rfl<|bng rfl rfl rfl rfl run_ge<|mvg rfl rfl rfl ?_
 cases c101:decide (48≤a0)
 ·
  have H:=H.cf c101
  refine sk rfl rfl<|sk rfl rfl<|pfg rfl rfl rfl rfl<|pf0 rfl rfl rfl<|as0 rfl rfl<|.fin ?_
  cases H.out; exact r0 i2 rfl (.cons (res_tmp rfl) .nil)
 have H:=H.ct c101
 refine mvg rfl rfl rfl<|bng rfl rfl rfl rfl run_le<|ptg rfl rfl rfl rfl<|pf0 rfl rfl rfl<|as0 rfl rfl<|.fin ?_
 cases H.out; exact r0 i2 rfl (.cons (res_tmp rfl) .nil)
theorem r01_Event.c (h:r01_Event.f k a0=some r):Pt prog 125 [vS a0] (vB r):=by
 unfold r01_Event.f at h
 refine pb func125 ntmps125 h fun R0 F H=>?_
 refine WP.seq<|rg 1 0<|as0 rfl rfl<|.fin<|WP.seq<|WP.seq<|rg 13 0<|mv0 rfl rfl<|Dv.lens rfl trivial rfl underlying9<|bn0 rfl rfl rfl run_lt<|mv0 rfl rfl ?_
 cases cc:decide ((a0.size:Int)<2)
 rotate_left
 ·
  have H:=H.ct cc
  refine sk rfl rfl<|sk rfl rfl<|sk rfl rfl<|pt0 rfl rfl rfl<|mv0 rfl rfl<|sk rfl rfl<|sk rfl rfl<|sk rfl rfl<|pt0 rfl rfl rfl<|.fin<|WP.cond rfl (fun _=>?_) nofun
  refine WP.seq<|rg 1 0<|as0 rfl rfl<|.fin ?_
  cases H.out; exact r0 i2 rfl (.cons (res_tmp rfl) .nil)
 have H:=H.cf cc
 refine mvg rfl rfl rfl<|Dv.lens rfl (gg rfl) rfl underlying9<|bng rfl rfl rfl rfl run_gt<|pf0 rfl rfl rfl<|mv0 rfl rfl ?_
 cases c105:decide (17<(a0.size:Int))
 rotate_left
 ·
  have H:=H.ct c105
  refine sk rfl rfl<|sk rfl rfl<|sk rfl rfl<|pt0 rfl rfl rfl<|.fin<|WP.cond rfl (fun _=>?_) nofun
  refine WP.seq<|rg 1 0<|as0 rfl rfl<|.fin ?_
  cases H.out; exact r0 i2 rfl (.cons (res_tmp rfl) .nil)
 have H:=H.cf c105
 refine mvg rfl rfl rfl<|gr H fun ga H=>Dv.ixs rfl (gg rfl) rfl rfl underlying9 ga.1 ga.2<|bng rfl rfl rfl rfl run_ne<|pf0 rfl rfl rfl<|.fin<|cd H rfl (fun _ H=>?_) (fun _ H=>?_)
 ·
  refine WP.seq<|rg 1 0<|as0 rfl rfl<|.fin ?_
  cases H.out; exact r0 i2 rfl (.cons (res_tmp rfl) .nil)
 refine WP.skip<|WP.seqr H id (fun pa:Int×Bool=>[(0,vS a0),(2,vB false),(3,vI pa.1),(18,vB ((bt a0 0) != 36)),(22,vB pa.2)]) (fun pa:Int×Bool=>F) (fun pa H=>?_) (fun H=>?_)
 ·
  refine WP.seq<|rg 1 0<|as0 rfl rfl<|.fin ?_
  cases H.out; exact r0 i2 rfl (.cons (res_tmp rfl) .nil)
 refine WP.seq<|rg 1 0<|as0 rfl rfl<|.fin<|WP.block<|wg (sg 0 [] 0) fun _ _=>?_
 refine lp (fun j_ (pc:Int)=>r01_Event.l0 k a0 j_ pc) 1 H (fun pc=>[(0,vS a0),(2,vB false),(3,vI pc),(18,vB ((bt a0 0) != 36))]) (fun pc=>F) ?_
 rintro j_ xa H
 rcases j_ with _ | ja
 ·
  exact (Gets.no H).elim
 try dsimp only at H
 rw [r01_Event.l0] at H
 refine WP.seq<|WP.seq<|rg 4 0<|mv0 rfl rfl<|mv0 rfl rfl<|Dv.lens rfl trivial rfl underlying9<|bn0 rfl rfl rfl run_lt<|.fin<|cd H rfl (fun _ H=>?_) (fun _ H=>?_)
 rotate_left
 ·
  refine WP.exit ?_
  have H:=H.out
  exact jn (xa,decide (xa<(a0.size:Int))) H
 refine WP.skip<|WP.seq<|WP.block<|WP.seq<|rg 5 0<|mv0 rfl rfl<|mv0 rfl rfl<|gr H fun gb H=>Dv.ixs rfl trivial rfl rfl underlying9 gb.1 gb.2<|el H fun ta haa H=>cl rfl cal62 rfl (r01_low.c haa)<|as0 rfl rfl<|.fin<|WP.seq<|rg 11 0<|mv0 rfl rfl<|mv0 rfl rfl<|gr H fun gi H=>Dv.ixs rfl trivial rfl rfl underlying9 gi.1 gi.2<|bn0 rfl rfl rfl run_ge<|mv0 rfl rfl ?_
 cases ce:decide (65≤(bt a0 xa))
 ·
  have H:=H.cf ce
  refine sk rfl rfl<|sk rfl rfl<|sk rfl rfl<|sk rfl rfl<|pf0 rfl rfl rfl<|as0 rfl rfl<|.fin<|WP.seq<|rg 18 0<|mv0 rfl rfl<|un0 rfl rfl (run_not _)<|mv0 rfl rfl ?_
  cases cg:!ta
  ·
   have H:=H.cf cg
   refine sk rfl rfl<|sk rfl rfl<|pf0 rfl rfl rfl<|mv0 rfl rfl<|sk rfl rfl<|sk rfl rfl<|sk rfl rfl<|sk rfl rfl<|pf0 rfl rfl rfl<|mv0 rfl rfl<|sk rfl rfl<|sk rfl rfl<|sk rfl rfl<|sk rfl rfl<|pf0 rfl rfl rfl<|.fin<|WP.cond rfl nofun (fun _=>?_)
   exact WP.skip<|rg 3 0<|mv0 rfl rfl<|bn0 rfl rfl rfl run_add<|as0 rfl rfl<|.fin<|bk ja (w64 (xa+1)) H
  have H:=H.ct cg
  refine mvg rfl rfl rfl<|ung rfl rfl rfl (run_not _)<|pt0 rfl rfl rfl<|mv0 rfl rfl<|mvg rfl rfl rfl<|mvg rfl rfl rfl<|gr H fun gj H=>Dv.ixs rfl (gg rfl) rfl rfl underlying9 gj.1 gj.2<|bng rfl rfl rfl rfl run_ne<|pt0 rfl rfl rfl<|mv0 rfl rfl ?_
  cases c129:((bt a0 xa) != 45)
  ·
   have H:=H.cf c129
   refine sk rfl rfl<|sk rfl rfl<|sk rfl rfl<|sk rfl rfl<|pf0 rfl rfl rfl<|.fin<|WP.cond rfl nofun (fun _=>?_)
   exact WP.skip<|rg 3 0<|mv0 rfl rfl<|bn0 rfl rfl rfl run_add<|as0 rfl rfl<|.fin<|bk ja (w64 (xa+1)) H
  have H:=H.ct c129
  refine mvg rfl rfl rfl<|mvg rfl rfl rfl<|gr H fun gk H=>Dv.ixs rfl (gg rfl) rfl rfl underlying9 gk.1 gk.2<|bng rfl rfl rfl rfl run_ne<|pt0 rfl rfl rfl<|.fin<|cd H rfl (fun _ H=>?_) (fun _ H=>?_)
  rotate_left
  ·
   exact WP.skip<|rg 3 0<|mv0 rfl rfl<|bn0 rfl rfl rfl run_add<|as0 rfl rfl<|.fin<|bk ja (w64 (xa+1)) H
  refine WP.seq<|rg 1 0<|as0 rfl rfl<|.fin ?_
  have H:=H.outr
  cases H.out; exact r0 i2 rfl (.cons (res_tmp rfl) .nil)
 have H:=H.ct ce
 refine mvg rfl rfl rfl<|mvg rfl rfl rfl<|gr H fun gl H=>Dv.ixs rfl (gg rfl) rfl rfl underlying9 gl.1 gl.2<|bng rfl rfl rfl rfl run_le<|pt0 rfl rfl rfl<|as0 rfl rfl<|.fin<|WP.seq<|rg 18 0<|mv0 rfl rfl<|un0 rfl rfl (run_not _)<|mv0 rfl rfl ?_
 cases ci:!ta
 ·
  have H:=H.cf ci
  refine sk rfl rfl<|sk rfl rfl<|pf0 rfl rfl rfl<|mv0 rfl rfl<|sk rfl rfl<|sk rfl rfl<|sk rfl rfl<|sk rfl rfl<|pf0 rfl rfl rfl<|mv0 rfl rfl<|sk rfl rfl<|sk rfl rfl<|sk rfl rfl<|sk rfl rfl<|pf0 rfl rfl rfl<|.fin<|WP.cond rfl nofun (fun _=>?_)
  exact WP.skip<|rg 3 0<|mv0 rfl rfl<|bn0 rfl rfl rfl run_add<|as0 rfl rfl<|.fin<|bk ja (w64 (xa+1)) H
 have H:=H.ct ci
 refine mvg rfl rfl rfl<|ung rfl rfl rfl (run_not _)<|pt0 rfl rfl rfl<|mv0 rfl rfl ?_
 cases cj:!(decide ((bt a0 xa)≤90))
 ·
  have H:=H.cf cj
  refine sk rfl rfl<|sk rfl rfl<|sk rfl rfl<|sk rfl rfl<|pf0 rfl rfl rfl<|mv0 rfl rfl<|sk rfl rfl<|sk rfl rfl<|sk rfl rfl<|sk rfl rfl<|pf0 rfl rfl rfl<|.fin<|WP.cond rfl nofun (fun _=>?_)
  exact WP.skip<|rg 3 0<|mv0 rfl rfl<|bn0 rfl rfl rfl run_add<|as0 rfl rfl<|.fin<|bk ja (w64 (xa+1)) H
 have H:=H.ct cj
 refine mvg rfl rfl rfl<|mvg rfl rfl rfl<|gr H fun gn H=>Dv.ixs rfl (gg rfl) rfl rfl underlying9 gn.1 gn.2<|bng rfl rfl rfl rfl run_ne<|pt0 rfl rfl rfl<|mv0 rfl rfl ?_
 cases ck:((bt a0 xa) != 45)
 ·
  have H:=H.cf ck
  refine sk rfl rfl<|sk rfl rfl<|sk rfl rfl<|sk rfl rfl<|pf0 rfl rfl rfl<|.fin<|WP.cond rfl nofun (fun _=>?_)
  exact WP.skip<|rg 3 0<|mv0 rfl rfl<|bn0 rfl rfl rfl run_add<|as0 rfl rfl<|.fin<|bk ja (w64 (xa+1)) H
 have H:=H.ct ck
 refine mvg rfl rfl rfl<|mvg rfl rfl rfl<|gr H fun go H=>Dv.ixs rfl (gg rfl) rfl rfl underlying9 go.1 go.2<|bng rfl rfl rfl rfl run_ne<|pt0 rfl rfl rfl<|.fin<|cd H rfl (fun _ H=>?_) (fun _ H=>?_)
 rotate_left
 ·
  exact WP.skip<|rg 3 0<|mv0 rfl rfl<|bn0 rfl rfl rfl run_add<|as0 rfl rfl<|.fin<|bk ja (w64 (xa+1)) H
 refine WP.seq<|rg 1 0<|as0 rfl rfl<|.fin ?_
 have H:=H.outr
 cases H.out; exact r0 i2 rfl (.cons (res_tmp rfl) .nil)
theorem r01_Server.c (h:r01_Server.f k a0=some r):Pt prog 24 [vS a0] (vB r):=by
 unfold r01_Server.f at h
 refine pb func24 ntmps24 h fun R0 F H=>?_
 refine WP.seq<|rg 1 0<|as0 rfl rfl<|.fin<|WP.seqr H id (fun pa:Int×Bool=>[(0,vS a0),(2,vB false),(3,vI pa.1),(9,vB pa.2)]) (fun pa:Int×Bool=>F) (fun pa H=>?_) (fun H=>?_)
 ·
  refine WP.seq<|rg 9 0<|mv0 rfl rfl<|Dv.lens rfl trivial rfl underlying9<|bn0 rfl rfl rfl run_gt<|mv0 rfl rfl ?_
  cases cc:decide (0<(a0.size:Int))
  ·
   have H:=H.cf cc
   refine sk rfl rfl<|sk rfl rfl<|sk rfl rfl<|pf0 rfl rfl rfl<|as0 rfl rfl<|.fin ?_
   cases H.out; exact r0 i2 rfl (.cons (res_tmp rfl) .nil)
  have H:=H.ct cc
  refine mvg rfl rfl rfl<|Dv.lens rfl (gg rfl) rfl underlying9<|bng rfl rfl rfl rfl run_lt<|pt0 rfl rfl rfl<|as0 rfl rfl<|.fin ?_
  cases H.out; exact r0 i2 rfl (.cons (res_tmp rfl) .nil)
 refine WP.seq<|rg 1 0<|as0 rfl rfl<|.fin<|WP.block<|wg (sg 0 [] 0) fun _ _=>?_
 refine lp (fun j_ (pc:Int)=>r01_Server.l0 k a0 j_ pc) 0 H (fun pc=>[(0,vS a0),(2,vB false),(3,vI pc)]) (fun pc=>F) ?_
 rintro j_ xa H
 rcases j_ with _ | ja
 ·
  exact (Gets.no H).elim
 try dsimp only at H
 rw [r01_Server.l0] at H
 refine WP.seq<|WP.seq<|rg 4 0<|mv0 rfl rfl<|mv0 rfl rfl<|Dv.lens rfl trivial rfl underlying9<|bn0 rfl rfl rfl run_lt<|.fin<|cd H rfl (fun _ H=>?_) (fun _ H=>?_)
 rotate_left
 ·
  refine WP.exit ?_
  have H:=H.out
  exact jn (xa,decide (xa<(a0.size:Int))) H
 refine WP.skip<|WP.seq<|WP.block<|WP.seq<|rg 5 0<|mv0 rfl rfl<|mv0 rfl rfl<|gr H fun ga H=>Dv.ixs rfl trivial rfl rfl underlying9 ga.1 ga.2<|el H fun ta haa H=>cl rfl cal62 rfl (r01_low.c haa)<|as0 rfl rfl<|.fin<|WP.seq<|rg 22 0<|mv0 rfl rfl<|bn0 rfl rfl rfl run_gt<|mv0 rfl rfl ?_
 cases ce:decide (0<xa)
 ·
  have H:=H.cf ce
  refine sk rfl rfl<|sk rfl rfl<|sk rfl rfl<|sk rfl rfl<|sk rfl rfl<|pf0 rfl rfl rfl<|mv0 rfl rfl<|sk rfl rfl<|sk rfl rfl<|sk rfl rfl<|sk rfl rfl<|sk rfl rfl<|sku rfl rfl<|sku rfl rfl<|sku rfl rfl<|sku rfl rfl<|sk rfl rfl<|pf0 rfl rfl rfl<|as0 rfl rfl<|.fin<|WP.seq<|rg 6 0<|mv0 rfl rfl<|un0 rfl rfl (run_not _)<|mv0 rfl rfl ?_
  cases c157:!ta
  ·
   have H:=H.cf c157
   refine sk rfl rfl<|sk rfl rfl<|pf0 rfl rfl rfl<|.fin<|WP.cond rfl nofun (fun _=>?_)
   exact WP.skip<|rg 3 0<|mv0 rfl rfl<|bn0 rfl rfl rfl run_add<|as0 rfl rfl<|.fin<|bk ja (w64 (xa+1)) H
  have H:=H.ct c157
  refine mvg rfl rfl rfl<|ung rfl rfl rfl (run_not _)<|pt0 rfl rfl rfl<|.fin<|WP.cond rfl (fun _=>?_) nofun
  refine WP.seq<|rg 1 0<|as0 rfl rfl<|.fin ?_
  have H:=H.outr
  cases H.out; exact r0 i2 rfl (.cons (res_tmp rfl) .nil)
 have H:=H.ct ce
 refine mvg rfl rfl rfl<|mvg rfl rfl rfl<|Dv.lens rfl (gg rfl) rfl underlying9<|bng rfl rfl rfl rfl run_sub<|bng rfl rfl rfl rfl run_lt<|pt0 rfl rfl rfl<|mv0 rfl rfl ?_
 cases c144:decide (xa<(w64 ((a0.size:Int)-1)))
 ·
  have H:=H.cf c144
  refine sk rfl rfl<|sk rfl rfl<|sk rfl rfl<|sk rfl rfl<|sk rfl rfl<|sku rfl rfl<|sku rfl rfl<|sku rfl rfl<|sku rfl rfl<|sk rfl rfl<|pf0 rfl rfl rfl<|as0 rfl rfl<|.fin<|WP.seq<|rg 6 0<|mv0 rfl rfl<|un0 rfl rfl (run_not _)<|mv0 rfl rfl ?_
  cases cg:!ta
  ·
   have H:=H.cf cg
   refine sk rfl rfl<|sk rfl rfl<|pf0 rfl rfl rfl<|.fin<|WP.cond rfl nofun (fun _=>?_)
   exact WP.skip<|rg 3 0<|mv0 rfl rfl<|bn0 rfl rfl rfl run_add<|as0 rfl rfl<|.fin<|bk ja (w64 (xa+1)) H
  have H:=H.ct cg
  refine mvg rfl rfl rfl<|ung rfl rfl rfl (run_not _)<|pt0 rfl rfl rfl<|.fin<|WP.cond rfl (fun _=>?_) nofun
  refine WP.seq<|rg 1 0<|as0 rfl rfl<|.fin ?_
  have H:=H.outr
  cases H.out; exact r0 i2 rfl (.cons (res_tmp rfl) .nil)
 have H:=H.ct c144
 refine mvg rfl rfl rfl<|mvg rfl rfl rfl<|gr H fun gb H=>Dv.ixs rfl (gg rfl) rfl rfl underlying9 gb.1 gb.2<|bng rfl rfl rfl rfl run_eq<|mvg rfl rfl rfl ?_
 cases ci:((bt a0 xa)==46)
 rotate_left
 ·
  have H:=H.ct ci
  refine sk rfl rfl<|sk rfl rfl<|sk rfl rfl<|sk rfl rfl<|ptg rfl rfl rfl rfl<|pt0 rfl rfl rfl<|as0 rfl rfl<|.fin<|WP.seq<|rg 6 0<|mv0 rfl rfl<|un0 rfl rfl (run_not _)<|mv0 rfl rfl ?_
  cases cj:!ta
  ·
   have H:=H.cf cj
   refine sk rfl rfl<|sk rfl rfl<|pf0 rfl rfl rfl<|.fin<|WP.cond rfl nofun (fun _=>?_)
   exact WP.skip<|rg 3 0<|mv0 rfl rfl<|bn0 rfl rfl rfl run_add<|as0 rfl rfl<|.fin<|bk ja (w64 (xa+1)) H
  have H:=H.ct cj
  refine mvg rfl rfl rfl<|ung rfl rfl rfl (run_not _)<|pt0 rfl rfl rfl<|.fin<|WP.cond rfl nofun (fun _=>?_)
  exact WP.skip<|rg 3 0<|mv0 rfl rfl<|bn0 rfl rfl rfl run_add<|as0 rfl rfl<|.fin<|bk ja (w64 (xa+1)) H
 have H:=H.cf ci
 refine mvg rfl rfl rfl<|mvg rfl rfl rfl<|gr H fun gi H=>Dv.ixs rfl (gg rfl) rfl rfl underlying9 gi.1 gi.2<|bng rfl rfl rfl rfl run_eq<|pfg rfl rfl rfl rfl<|pt0 rfl rfl rfl<|as0 rfl rfl<|.fin<|WP.seq<|rg 6 0<|mv0 rfl rfl<|un0 rfl rfl (run_not _)<|mv0 rfl rfl ?_
 cases ck:!ta
 ·
  have H:=H.cf ck
  refine sk rfl rfl<|sk rfl rfl<|pf0 rfl rfl rfl<|.fin<|WP.cond rfl nofun (fun _=>?_)
  exact WP.skip<|rg 3 0<|mv0 rfl rfl<|bn0 rfl rfl rfl run_add<|as0 rfl rfl<|.fin<|bk ja (w64 (xa+1)) H
 have H:=H.ct ck
 refine mvg rfl rfl rfl<|ung rfl rfl rfl (run_not _)<|pt0 rfl rfl rfl<|.fin<|cd H rfl (fun _ H=>?_) (fun _ H=>?_)
 rotate_left
 ·
  exact WP.skip<|rg 3 0<|mv0 rfl rfl<|bn0 rfl rfl rfl run_add<|as0 rfl rfl<|.fin<|bk ja (w64 (xa+1)) H
 refine WP.seq<|rg 1 0<|as0 rfl rfl<|.fin ?_
 have H:=H.outr
 cases H.out; exact r0 i2 rfl (.cons (res_tmp rfl) .nil)
theorem r01_colon.c (h:r01_colon.f k a0=some r):Pt prog 153 [vS a0] (vI r):=by
 unfold r01_colon.f at h
 refine pb func153 ntmps153 h fun R0 F H=>?_
 refine WP.seq<|rg 1 0<|as0 rfl rfl<|.fin<|WP.seqr H id (fun pa:Int×Bool=>[(0,vS a0),(2,vI 0),(3,vI pa.1),(7,vB pa.2)]) (fun pa:Int×Bool=>F) (fun pa H=>?_) (fun H=>?_)
 ·
  refine WP.seq<|rg 1 0<|as0 rfl rfl<|.fin ?_
  cases H.out; exact r0 i2 rfl (.cons (res_tmp rfl) .nil)
 refine WP.seq<|rg 1 0<|as0 rfl rfl<|.fin<|WP.block<|wg (sg 0 [] 0) fun _ _=>?_
 refine lp (fun j_ (pc:Int)=>r01_colon.l0 k a0 j_ pc) 0 H (fun pc=>[(0,vS a0),(2,vI 0),(3,vI pc)]) (fun pc=>F) ?_
 rintro j_ xa H
 rcases j_ with _ | ja
 ·
  exact (Gets.no H).elim
 try dsimp only at H
 rw [r01_colon.l0] at H
 refine WP.seq<|WP.seq<|rg 4 0<|mv0 rfl rfl<|mv0 rfl rfl<|Dv.lens rfl trivial rfl underlying9<|bn0 rfl rfl rfl run_lt<|.fin<|cd H rfl (fun _ H=>?_) (fun _ H=>?_)
 rotate_left
 ·
  refine WP.exit ?_
  have H:=H.out
  exact jn (xa,decide (xa<(a0.size:Int))) H
 refine WP.skip<|WP.seq<|WP.block<|WP.seq<|rg 4 0<|mv0 rfl rfl<|mv0 rfl rfl<|gr H fun ga H=>Dv.ixs rfl trivial rfl rfl underlying9 ga.1 ga.2<|bn0 rfl rfl rfl run_eq<|.fin<|cd H rfl (fun _ H=>?_) (fun _ H=>?_)
 rotate_left
 ·
  exact WP.skip<|rg 3 0<|mv0 rfl rfl<|bn0 rfl rfl rfl run_add<|as0 rfl rfl<|.fin<|bk ja (w64 (xa+1)) H
 refine WP.seq<|rg 2 0<|mv0 rfl rfl<|as0 rfl rfl<|.fin ?_
 have H:=H.outr
 cases H.out; exact r0 i2 rfl (.cons (res_tmp rfl) .nil)
theorem r01_Part.c (h:r01_Part.f k a0=some r):Pt prog 154 [vS a0] (vB r):=by
 unfold r01_Part.f at h
 refine pb func154 ntmps154 h fun R0 F H=>?_
 refine WP.seq<|rg 1 0<|as0 rfl rfl<|.fin<|WP.seqr H id (fun pa:Int×Bool=>[(0,vS a0),(2,vB false),(3,vI pa.1),(8,vB pa.2)]) (fun pa:Int×Bool=>F) (fun pa H=>?_) (fun H=>?_)
 ·
  refine WP.seq<|rg 9 0<|mv0 rfl rfl<|Dv.lens rfl trivial rfl underlying9<|bn0 rfl rfl rfl run_gt<|mv0 rfl rfl ?_
  cases cc:decide (0<(a0.size:Int))
  ·
   have H:=H.cf cc
   refine sk rfl rfl<|sk rfl rfl<|sk rfl rfl<|pf0 rfl rfl rfl<|as0 rfl rfl<|.fin ?_
   cases H.out; exact r0 i2 rfl (.cons (res_tmp rfl) .nil)
  have H:=H.ct cc
  refine mvg rfl rfl rfl<|Dv.lens rfl (gg rfl) rfl underlying9<|bng rfl rfl rfl rfl run_lt<|pt0 rfl rfl rfl<|as0 rfl rfl<|.fin ?_
  cases H.out; exact r0 i2 rfl (.cons (res_tmp rfl) .nil)
 refine WP.seq<|rg 1 0<|as0 rfl rfl<|.fin<|WP.block<|wg (sg 0 [] 0) fun _ _=>?_
 refine lp (fun j_ (pc:Int)=>r01_Part.l0 k a0 j_ pc) 0 H (fun pc=>[(0,vS a0),(2,vB false),(3,vI pc)]) (fun pc=>F) ?_
 rintro j_ xa H
 rcases j_ with _ | ja
 ·
  exact (Gets.no H).elim
 try dsimp only at H
 rw [r01_Part.l0] at H
 refine WP.seq<|WP.seq<|rg 4 0<|mv0 rfl rfl<|mv0 rfl rfl<|Dv.lens rfl trivial rfl underlying9<|bn0 rfl rfl rfl run_lt<|.fin<|cd H rfl (fun _ H=>?_) (fun _ H=>?_)
 rotate_left
 ·
  refine WP.exit ?_
  have H:=H.out
  exact jn (xa,decide (xa<(a0.size:Int))) H
 refine WP.skip<|WP.seq<|WP.block<|WP.seq<|rg 5 0<|mv0 rfl rfl<|mv0 rfl rfl<|gr H fun ga H=>Dv.ixs rfl trivial rfl rfl underlying9 ga.1 ga.2<|el H fun ta haa H=>cl rfl cal62 rfl (r01_low.c haa)<|as0 rfl rfl<|.fin<|WP.seq<|rg 20 0<|mv0 rfl rfl<|un0 rfl rfl (run_not _)<|mv0 rfl rfl ?_
 cases ce:!ta
 ·
  have H:=H.cf ce
  refine sk rfl rfl<|sk rfl rfl<|sk rfl rfl<|sk rfl rfl<|pf0 rfl rfl rfl<|mv0 rfl rfl<|sk rfl rfl<|sk rfl rfl<|sk rfl rfl<|sk rfl rfl<|pf0 rfl rfl rfl<|mv0 rfl rfl<|sk rfl rfl<|sk rfl rfl<|sk rfl rfl<|sk rfl rfl<|pf0 rfl rfl rfl<|.fin<|WP.cond rfl nofun (fun _=>?_)
  exact WP.skip<|rg 3 0<|mv0 rfl rfl<|bn0 rfl rfl rfl run_add<|as0 rfl rfl<|.fin<|bk ja (w64 (xa+1)) H
 have H:=H.ct ce
 refine mvg rfl rfl rfl<|mvg rfl rfl rfl<|gr H fun gb H=>Dv.ixs rfl (gg rfl) rfl rfl underlying9 gb.1 gb.2<|bng rfl rfl rfl rfl run_ne<|pt0 rfl rfl rfl<|mv0 rfl rfl ?_
 cases cg:((bt a0 xa) != 46)
 ·
  have H:=H.cf cg
  refine sk rfl rfl<|sk rfl rfl<|sk rfl rfl<|sk rfl rfl<|pf0 rfl rfl rfl<|mv0 rfl rfl<|sk rfl rfl<|sk rfl rfl<|sk rfl rfl<|sk rfl rfl<|pf0 rfl rfl rfl<|.fin<|WP.cond rfl nofun (fun _=>?_)
  exact WP.skip<|rg 3 0<|mv0 rfl rfl<|bn0 rfl rfl rfl run_add<|as0 rfl rfl<|.fin<|bk ja (w64 (xa+1)) H
 have H:=H.ct cg
 refine mvg rfl rfl rfl<|mvg rfl rfl rfl<|gr H fun gi H=>Dv.ixs rfl (gg rfl) rfl rfl underlying9 gi.1 gi.2<|bng rfl rfl rfl rfl run_ne<|pt0 rfl rfl rfl<|mv0 rfl rfl ?_
 cases ci:((bt a0 xa) != 45)
 ·
  have H:=H.cf ci
  refine sk rfl rfl<|sk rfl rfl<|sk rfl rfl<|sk rfl rfl<|pf0 rfl rfl rfl<|.fin<|WP.cond rfl nofun (fun _=>?_)
  exact WP.skip<|rg 3 0<|mv0 rfl rfl<|bn0 rfl rfl rfl run_add<|as0 rfl rfl<|.fin<|bk ja (w64 (xa+1)) H
 have H:=H.ct ci
 refine mvg rfl rfl rfl<|mvg rfl rfl rfl<|gr H fun gj H=>Dv.ixs rfl (gg rfl) rfl rfl underlying9 gj.1 gj.2<|bng rfl rfl rfl rfl run_ne<|pt0 rfl rfl rfl<|.fin<|cd H rfl (fun _ H=>?_) (fun _ H=>?_)
 rotate_left
 ·
  exact WP.skip<|rg 3 0<|mv0 rfl rfl<|bn0 rfl rfl rfl run_add<|as0 rfl rfl<|.fin<|bk ja (w64 (xa+1)) H
 refine WP.seq<|rg 1 0<|as0 rfl rfl<|.fin ?_
 have H:=H.outr
 cases H.out; exact r0 i2 rfl (.cons (res_tmp rfl) .nil)
theorem r01_Named.c (h:r01_Named.f k a0 a1=some r):Pt prog 126 [vS a0,eq (.int .u8 a1)] (vB r):=by
 unfold r01_Named.f at h
 refine pb func126 ntmps126 h fun R0 F H=>?_
 refine WP.seq<|rg 1 0<|as0 rfl rfl<|.fin<|WP.seq<|rg 3 0<|mv0 rfl rfl<|el H fun ta haa H=>cl rfl cal153 rfl (r01_colon.c haa)<|as0 rfl rfl<|.fin<|WP.seq<|WP.seq<|rg 8 0<|mv0 rfl rfl<|bn0 rfl rfl rfl run_lt<|mv0 rfl rfl ?_
 cases cc:decide (ta<1)
 rotate_left
 ·
  have H:=H.ct cc
  refine sk rfl rfl<|sk rfl rfl<|sk rfl rfl<|sk rfl rfl<|pt0 rfl rfl rfl<|.fin<|WP.cond rfl (fun _=>?_) nofun
  refine WP.seq<|rg 1 0<|as0 rfl rfl<|.fin ?_
  cases H.out; exact r0 i2 rfl (.cons (res_tmp rfl) .nil)
 have H:=H.cf cc
 refine mvg rfl rfl rfl<|gr H fun ga H=>Dv.ixs rfl (gg rfl) rfl rfl underlying9 ga.1 ga.2<|mvg rfl rfl rfl<|bng rfl rfl rfl rfl run_ne<|pf0 rfl rfl rfl<|.fin<|cd H rfl (fun _ H=>?_) (fun _ H=>?_)
 ·
  refine WP.seq<|rg 1 0<|as0 rfl rfl<|.fin ?_
  cases H.out; exact r0 i2 rfl (.cons (res_tmp rfl) .nil)
 refine WP.skip<|WP.seq<|rg 5 0<|mv0 rfl rfl<|mv0 rfl rfl<|gr H fun gb H=>Dv.sss rfl trivial rfl underlying9 (bdE_some rfl gb.1) (bdE_some rfl gb.2.1) gb.2.2.1 gb.2.2.2<|el H fun tc hac H=>cl rfl cal154 rfl (r01_Part.c hac)<|as0 rfl rfl<|.fin<|WP.seq<|rg 6 0<|mv0 rfl rfl<|mv0 rfl rfl<|bn0 rfl rfl rfl run_add<|gr H fun gi H=>Dv.sss rfl trivial rfl underlying9 (bdE_some rfl gi.1) bdE_none gi.2.1 gi.2.2<|el H fun te had H=>cl rfl cal24 rfl (r01_Server.c had)<|as0 rfl rfl<|.fin<|WP.seq<|rg 5 0<|mv0 rfl rfl<|mv0 rfl rfl ?_
 cases ce:tc
 ·
  have H:=H.cf ce
  refine sk rfl rfl<|pf0 rfl rfl rfl<|as0 rfl rfl<|.fin ?_
  cases H.out; exact r0 i2 rfl (.cons (res_tmp rfl) .nil)
 have H:=H.ct ce
 refine mvg rfl rfl rfl<|pt0 rfl rfl rfl<|as0 rfl rfl<|.fin ?_
 cases H.out; exact r0 i2 rfl (.cons (res_tmp rfl) .nil)
theorem r07_May.c (h:r07_May.f k a0=some r):Pt prog 96 [agg (Event.enc a0)] (vB r):=by
 unfold r07_May.f at h
 refine pb func96 ntmps96 h fun R0 F H=>?_
 refine WP.seq<|rg 2 1<|Dv.box rfl trivial rfl cA nofun fun ba=>as0 rfl rfl<|.fin<|WP.seq<|rg 4 0<|fb rfl trivial rfl fa55_0<|ld 0 rfl trivial rfl sc9 rfl rfl<|el H fun ta haa H=>cl rfl cal125 rfl (r01_Event.c haa)<|as0 rfl rfl<|.fin<|WP.seq<|rg 4 0<|fb rfl trivial rfl fa55_1<|ld 0 rfl trivial rfl sc9 rfl rfl<|el H fun tc hac H=>cl rfl cal126 rfl (r01_Named.c hac)<|as0 rfl rfl<|.fin<|WP.seq<|rg 4 0<|fb rfl trivial rfl fa55_4<|ld 0 rfl trivial rfl sc9 rfl rfl<|el H fun te had H=>cl rfl cal126 rfl (r01_Named.c had)<|as0 rfl rfl<|.fin<|WP.seq<|WP.seq<|rg 26 0<|mv0 rfl rfl<|un0 rfl rfl (run_not _)<|mv0 rfl rfl ?_
 cases cc:!ta
 rotate_left
 ·
  have H:=H.ct cc
  refine sk rfl rfl<|sk rfl rfl<|pt0 rfl rfl rfl<|mv0 rfl rfl<|sk rfl rfl<|sk rfl rfl<|pt0 rfl rfl rfl<|mv0 rfl rfl<|sk rfl rfl<|sk rfl rfl<|sk rfl rfl<|sk rfl rfl<|pt0 rfl rfl rfl<|mv0 rfl rfl<|sk rfl rfl<|sk rfl rfl<|sk rfl rfl<|pt0 rfl rfl rfl<|mv0 rfl rfl<|sk rfl rfl<|sk rfl rfl<|sk rfl rfl<|pt0 rfl rfl rfl<|.fin<|WP.cond rfl (fun _=>?_) nofun
  refine WP.seq<|rg 1 0<|as0 rfl rfl<|.fin ?_
  cases H.out; exact r1 i2 rfl (.cons (res_tmp rfl) .nil)
 have H:=H.cf cc
 refine mvg rfl rfl rfl<|ung rfl rfl rfl (run_not _)<|pf0 rfl rfl rfl<|mv0 rfl rfl ?_
 cases ce:!tc
 rotate_left
 ·
  have H:=H.ct ce
  refine sk rfl rfl<|sk rfl rfl<|pt0 rfl rfl rfl<|mv0 rfl rfl<|sk rfl rfl<|sk rfl rfl<|sk rfl rfl<|sk rfl rfl<|pt0 rfl rfl rfl<|mv0 rfl rfl<|sk rfl rfl<|sk rfl rfl<|sk rfl rfl<|pt0 rfl rfl rfl<|mv0 rfl rfl<|sk rfl rfl<|sk rfl rfl<|sk rfl rfl<|pt0 rfl rfl rfl<|.fin<|WP.cond rfl (fun _=>?_) nofun
  refine WP.seq<|rg 1 0<|as0 rfl rfl<|.fin ?_
  cases H.out; exact r1 i2 rfl (.cons (res_tmp rfl) .nil)
 have H:=H.cf ce
 refine mvg rfl rfl rfl<|ung rfl rfl rfl (run_not _)<|pf0 rfl rfl rfl<|mv0 rfl rfl ?_
 cases cg:!te
 rotate_left
 ·
  have H:=H.ct cg
  refine sk rfl rfl<|sk rfl rfl<|sk rfl rfl<|sk rfl rfl<|pt0 rfl rfl rfl<|mv0 rfl rfl<|sk rfl rfl<|sk rfl rfl<|sk rfl rfl<|pt0 rfl rfl rfl<|mv0 rfl rfl<|sk rfl rfl<|sk rfl rfl<|sk rfl rfl<|pt0 rfl rfl rfl<|.fin<|WP.cond rfl (fun _=>?_) nofun
  refine WP.seq<|rg 1 0<|as0 rfl rfl<|.fin ?_
  cases H.out; exact r1 i2 rfl (.cons (res_tmp rfl) .nil)
 have H:=H.cf cg
 refine fb rfl (gg rfl) rfl fa55_2<|ld 0 rfl (gg rfl) rfl sc53 rfl rfl<|Dv.lenl rfl (gg rfl) rfl underlying53<|bng rfl rfl rfl rfl run_gt<|pf0 rfl rfl rfl<|mv0 rfl rfl ?_
 cases ci:decide (4<(a0.fParents.length:Int))
 rotate_left
 ·
  have H:=H.ct ci
  refine sk rfl rfl<|sk rfl rfl<|sk rfl rfl<|pt0 rfl rfl rfl<|mv0 rfl rfl<|sk rfl rfl<|sk rfl rfl<|sk rfl rfl<|pt0 rfl rfl rfl<|.fin<|WP.cond rfl (fun _=>?_) nofun
  refine WP.seq<|rg 1 0<|as0 rfl rfl<|.fin ?_
  cases H.out; exact r1 i2 rfl (.cons (res_tmp rfl) .nil)
 have H:=H.cf ci
 refine fb rfl (gg rfl) rfl fa55_5<|ld 0 rfl (gg rfl) rfl sc3 rfl rfl<|bng rfl rfl rfl rfl run_lt<|pf0 rfl rfl rfl<|mv0 rfl rfl ?_
 cases cj:decide (a0.fDoes<0)
 rotate_left
 ·
  have H:=H.ct cj
  refine sk rfl rfl<|sk rfl rfl<|sk rfl rfl<|pt0 rfl rfl rfl<|.fin<|WP.cond rfl (fun _=>?_) nofun
  refine WP.seq<|rg 1 0<|as0 rfl rfl<|.fin ?_
  cases H.out; exact r1 i2 rfl (.cons (res_tmp rfl) .nil)
 have H:=H.cf cj
 refine fb rfl (gg rfl) rfl fa55_5<|ld 0 rfl (gg rfl) rfl sc3 rfl rfl<|bng rfl rfl rfl rfl run_gt<|pf0 rfl rfl rfl<|.fin<|cd H rfl (fun _ H=>?_) (fun _ H=>?_)
 ·
  refine WP.seq<|rg 1 0<|as0 rfl rfl<|.fin ?_
  cases H.out; exact r1 i2 rfl (.cons (res_tmp rfl) .nil)
 refine WP.skip<|WP.seqr H id (fun pa:Unit=>[(0,agg (Event.enc a0)),(1,eq (.pointer (some ⟨ba,0,none⟩))),(2,vB false),(3,vB ta),(4,vB tc),(5,vB te),(43,vB (decide (2<a0.fDoes))),(46,vB (!decide (a0.fThread=(⟨#[]⟩:ByteArray))))]) (fun pa:Unit=>[blk ba 55 (Event.enc a0)]++F) (fun pa H=>?_) (fun H=>?_)
 rotate_left
 ·
  refine WP.seq<|rg 3 0<|fb rfl trivial rfl fa55_3<|ld 0 rfl trivial rfl sc9 rfl rfl<|bn0 rfl rfl rfl run_sne<|.fin<|cd H rfl (fun _ H=>?_) (fun _ H=>?_)
  rotate_left
  ·
   refine WP.skip ?_
   have H:=H.out
   exact jn () H
  refine WP.seq<|rg 4 0<|fb rfl trivial rfl fa55_3<|ld 0 rfl trivial rfl sc9 rfl rfl<|el H fun tf hae H=>cl rfl cal125 rfl (r01_Event.c hae)<|as0 rfl rfl<|.fin<|WP.seq<|rg 14 0<|mv0 rfl rfl<|un0 rfl rfl (run_not _)<|mv0 rfl rfl ?_
  cases ck:!tf
  rotate_left
  ·
   have H:=H.ct ck
   refine sk rfl rfl<|sk rfl rfl<|sk rfl rfl<|sk rfl rfl<|sk rfl rfl<|pt0 rfl rfl rfl<|mv0 rfl rfl<|sk rfl rfl<|sk rfl rfl<|sk rfl rfl<|pt0 rfl rfl rfl<|.fin<|WP.cond rfl (fun _=>?_) nofun
   refine WP.seq<|rg 1 0<|as0 rfl rfl<|.fin ?_
   have H:=H.outr
   cases H.out; exact r1 i2 rfl (.cons (res_tmp rfl) .nil)
  have H:=H.cf ck
  refine fb rfl (gg rfl) rfl fa55_3<|ld 0 rfl (gg rfl) rfl sc9 rfl rfl<|fb rfl (gg rfl) rfl fa55_0<|ld 0 rfl (gg rfl) rfl sc9 rfl rfl<|bng rfl rfl rfl rfl run_seq<|pf0 rfl rfl rfl<|mv0 rfl rfl ?_
  cases cn:decide (a0.fThread=a0.fID)
  rotate_left
  ·
   have H:=H.ct cn
   refine sk rfl rfl<|sk rfl rfl<|sk rfl rfl<|pt0 rfl rfl rfl<|.fin<|WP.cond rfl (fun _=>?_) nofun
   refine WP.seq<|rg 1 0<|as0 rfl rfl<|.fin ?_
   have H:=H.outr
   cases H.out; exact r1 i2 rfl (.cons (res_tmp rfl) .nil)
  have H:=H.cf cn
  refine fb rfl (gg rfl) rfl fa55_5<|ld 0 rfl (gg rfl) rfl sc3 rfl rfl<|bng rfl rfl rfl rfl run_ne<|pf0 rfl rfl rfl<|.fin<|cd H rfl (fun _ H=>?_) (fun _ H=>?_)
  rotate_left
  ·
   refine WP.skip ?_
   have H:=H.out
   exact jn () H
  refine WP.seq<|rg 1 0<|as0 rfl rfl<|.fin ?_
  have H:=H.outr
  cases H.out; exact r1 i2 rfl (.cons (res_tmp rfl) .nil)
 refine WP.seqr H id (fun pc:Int×Bool=>[(0,agg (Event.enc a0)),(1,eq (.pointer (some ⟨ba,0,none⟩))),(2,vB false),(3,vB ta),(4,vB tc),(5,vB te),(7,vI pc.1),(43,vB (decide (2<a0.fDoes))),(46,vB (!decide (a0.fThread=(⟨#[]⟩:ByteArray)))),(68,vB pc.2)]) (fun pc:Int×Bool=>[blk ba 55 (Event.enc a0)]++F) (fun pc H=>?_) (fun H=>?_)
 ·
  refine WP.seq<|rg 1 0<|as0 rfl rfl<|.fin ?_
  cases H.out; exact r1 i2 rfl (.cons (res_tmp rfl) .nil)
 refine WP.seq<|rg 1 0<|as0 rfl rfl<|.fin<|WP.block<|wg (sg 1 [0] 0) fun _ _=>?_
 refine lp (fun j_ (pd:Int)=>r07_May.l0 k a0 j_ pd) 0 H (fun pd=>[(0,agg (Event.enc a0)),(1,eq (.pointer (some ⟨ba,0,none⟩))),(2,vB false),(3,vB ta),(4,vB tc),(5,vB te),(7,vI pd),(43,vB (decide (2<a0.fDoes))),(46,vB (!decide (a0.fThread=(⟨#[]⟩:ByteArray))))]) (fun pd=>[blk ba 55 (Event.enc a0)]++F) ?_
 rintro j_ xa H
 rcases j_ with _ | ja
 ·
  exact (Gets.no H).elim
 try dsimp only at H
 rw [r07_May.l0] at H
 refine WP.seq<|WP.seq<|rg 5 0<|mv0 rfl rfl<|fb rfl trivial rfl fa55_2<|ld 0 rfl trivial rfl sc53 rfl rfl<|Dv.lenl rfl trivial rfl underlying53<|bn0 rfl rfl rfl run_lt<|.fin<|cd H rfl (fun _ H=>?_) (fun _ H=>?_)
 rotate_left
 ·
  refine WP.exit ?_
  have H:=H.out
  exact jn (xa,decide (xa<(a0.fParents.length:Int))) H
 refine WP.skip<|WP.seq<|WP.block<|WP.seq<|rg 7 0<|fb rfl trivial rfl fa55_2<|ld 0 rfl trivial rfl sc53 rfl rfl<|mv0 rfl rfl<|gr H fun ga H=>Dv.ixr rfl trivial rfl rfl underlying53 underlying9 c9 ga.1 ga.2<|ldR rfl trivial rfl sc9 rfl<|el H fun tg haf H=>cl rfl cal125 rfl (r01_Event.c haf)<|as0 rfl rfl<|.fin<|WP.seq<|WP.seq<|dg Tryz.checked.mixed 12 0<|mv0 rfl rfl<|un0 rfl rfl (run_not _)<|mv0 rfl rfl ?_
 cases c226:!tg
 rotate_left
 ·
  have H:=H.ct c226
  refine sk rfl rfl<|sk rfl rfl<|sk rfl rfl<|sk rfl rfl<|sk rfl rfl<|sk rfl rfl<|sk rfl rfl<|sk rfl rfl<|pt0 rfl rfl rfl<|.fin<|WP.cond rfl (fun _=>?_) nofun
  refine WP.seq<|rg 1 0<|as0 rfl rfl<|.fin ?_
  have H:=H.outr
  cases H.out; exact r1 i2 rfl (.cons (res_tmp rfl) .nil)
 have H:=H.cf c226
 refine fb rfl (gg rfl) rfl fa55_2<|ld 0 rfl (gg rfl) rfl sc53 rfl rfl<|mvg rfl rfl rfl<|gr H fun gb H=>Dv.ixr rfl (gg rfl) rfl rfl underlying53 underlying9 c9 gb.1 gb.2<|ldR rfl (gg rfl) rfl sc9 rfl<|fb rfl (gg rfl) rfl fa55_0<|ld 0 rfl (gg rfl) rfl sc9 rfl rfl<|bng rfl rfl rfl rfl run_seq<|pf0 rfl rfl rfl<|.fin<|cd H rfl (fun _ H=>?_) (fun _ H=>?_)
 ·
  refine WP.seq<|rg 1 0<|as0 rfl rfl<|.fin ?_
  have H:=H.outr
  cases H.out; exact r1 i2 rfl (.cons (res_tmp rfl) .nil)
 refine WP.skip<|WP.seq<|dg Tryz.checked.mixed 17 0<|mv0 rfl rfl<|bn0 rfl rfl rfl run_gt<|mv0 rfl rfl ?_
 cases co:decide (0<xa)
 ·
  have H:=H.cf co
  refine sk rfl rfl<|sk rfl rfl<|sk rfl rfl<|sk rfl rfl<|sk rfl rfl<|sk rfl rfl<|sk rfl rfl<|sk rfl rfl<|sk rfl rfl<|sk rfl rfl<|sk rfl rfl<|sk rfl rfl<|sk rfl rfl<|pf0 rfl rfl rfl<|.fin<|WP.cond rfl nofun (fun _=>?_)
  exact WP.skip<|rg 3 0<|mv0 rfl rfl<|bn0 rfl rfl rfl run_add<|as0 rfl rfl<|.fin<|bk ja (w64 (xa+1)) H
 have H:=H.ct co
 refine fb rfl (gg rfl) rfl fa55_2<|ld 0 rfl (gg rfl) rfl sc53 rfl rfl<|mvg rfl rfl rfl<|bng rfl rfl rfl rfl run_sub<|Dv.maxi rfl (gg rfl) rfl rfl<|gr H fun gi H=>Dv.ixr rfl (gg rfl) rfl rfl underlying53 underlying9 c9 gi.1 gi.2<|ldR rfl (gg rfl) rfl sc9 rfl<|fb rfl (gg rfl) rfl fa55_2<|ld 0 rfl (gg rfl) rfl sc53 rfl rfl<|mvg rfl rfl rfl<|gr H fun gj H=>Dv.ixr rfl (gg rfl) rfl rfl underlying53 underlying9 c9 gj.1 gj.2<|ldR rfl (gg rfl) rfl sc9 rfl<|bng rfl rfl rfl rfl run_sge<|pt0 rfl rfl rfl<|.fin<|cd H rfl (fun _ H=>?_) (fun _ H=>?_)
 rotate_left
 ·
  exact WP.skip<|rg 3 0<|mv0 rfl rfl<|bn0 rfl rfl rfl run_add<|as0 rfl rfl<|.fin<|bk ja (w64 (xa+1)) H
 refine WP.seq<|rg 1 0<|as0 rfl rfl<|.fin ?_
 have H:=H.outr
 cases H.out; exact r1 i2 rfl (.cons (res_tmp rfl) .nil)
theorem r07_At.c (h:r07_At.f k a0 a1=some r):Pt prog 97 [agg (RDag.enc a0),vS a1] (vI r):=by
 unfold r07_At.f at h
 refine pb func97 ntmps97 h fun R0 F H=>?_
 refine WP.seq<|rg 2 1<|Dv.box rfl trivial rfl cA nofun fun ba=>as0 rfl rfl<|.fin<|WP.seqr H id (fun pa:Int×Bool=>[(0,agg (RDag.enc a0)),(1,vS a1),(2,eq (.pointer (some ⟨ba,0,none⟩))),(4,vI 0),(5,vI pa.1),(10,vB pa.2)]) (fun pa:Int×Bool=>[blk ba 97 (RDag.enc a0)]++F) (fun pa H=>?_) (fun H=>?_)
 ·
  refine WP.seq<|rg 1 0<|as0 rfl rfl<|.fin ?_
  cases H.out; exact r1 i2 rfl (.cons (res_tmp rfl) .nil)
 refine WP.seq<|rg 1 0<|as0 rfl rfl<|.fin<|WP.block<|wg (sg 1 [0] 0) fun _ _=>?_
 refine lp (fun j_ (pc:Int)=>r07_At.l0 k a0 a1 j_ pc) 0 H (fun pc=>[(0,agg (RDag.enc a0)),(1,vS a1),(2,eq (.pointer (some ⟨ba,0,none⟩))),(4,vI 0),(5,vI pc)]) (fun pc=>[blk ba 97 (RDag.enc a0)]++F) ?_
 rintro j_ xa H
 rcases j_ with _ | ja
 ·
  exact (Gets.no H).elim
 try dsimp only at H
 rw [r07_At.l0] at H
 refine WP.seq<|WP.seq<|rg 5 0<|mv0 rfl rfl<|fb rfl trivial rfl fa97_1<|ld 0 rfl trivial rfl sc28 rfl rfl<|Dv.lenl rfl trivial rfl underlying28<|bn0 rfl rfl rfl run_lt<|.fin<|cd H rfl (fun _ H=>?_) (fun _ H=>?_)
 rotate_left
 ·
  refine WP.exit ?_
  have H:=H.out
  exact jn (xa,decide (xa<(a0.fL.length:Int))) H
 refine WP.skip<|WP.seq<|WP.block<|WP.seq<|rg 8 0<|fb rfl trivial rfl fa97_1<|ld 0 rfl trivial rfl sc28 rfl rfl<|mv0 rfl rfl<|gr H fun ga H=>Dv.ixr rfl trivial rfl rfl underlying28 underlying55 c55 ga.1 ga.2<|fr rfl trivial rfl fa55_0 rfl<|ldR rfl trivial rfl sc9 rfl<|mv0 rfl rfl<|bn0 rfl rfl rfl run_seq<|.fin<|cd H rfl (fun _ H=>?_) (fun _ H=>?_)
 rotate_left
 ·
  exact WP.skip<|rg 3 0<|mv0 rfl rfl<|bn0 rfl rfl rfl run_add<|as0 rfl rfl<|.fin<|bk ja (w64 (xa+1)) H
 refine WP.seq<|rg 2 0<|mv0 rfl rfl<|as0 rfl rfl<|.fin ?_
 have H:=H.outr
 cases H.out; exact r1 i2 rfl (.cons (res_tmp rfl) .nil)
theorem r07_Add.c (h:r07_Add.f k a0 a1=some r):Pt prog 57 [agg (RDag.enc a0),agg (Event.enc a1)] (tup [agg (RDag.enc r.1),vI r.2]):=by
 unfold r07_Add.f at h
 refine pb func57 ntmps57 h fun R0 F H=>?_
 refine WP.seq<|rg 4 7<|Dv.box rfl trivial rfl cA nofun fun ba=>Dv.box rfl trivial rfl cA nofun fun bc=>al rfl trivial zc97 nofun fun bd=>as0 rfl rfl<|.fin<|WP.seq<|rg 3 0<|lds 1 rfl trivial rfl sg55 rfl rfl<|el H fun ta haa H=>cl rfl cal96 rfl (r07_May.c haa)<|as0 rfl rfl<|.fin<|WP.seq<|WP.seq<|rg 9 0<|mv0 rfl rfl<|un0 rfl rfl (run_not _)<|mv0 rfl rfl ?_
 cases cc:!ta
 rotate_left
 ·
  have H:=H.ct cc
  refine sk rfl rfl<|sk rfl rfl<|sk rfl rfl<|sk rfl rfl<|sk rfl rfl<|pt0 rfl rfl rfl<|.fin<|WP.cond rfl (fun _=>?_) nofun
  refine WP.seq<|rg 3 2<|lds 2 rfl trivial rfl sg97 rfl rfl<|sx 0 rfl trivial rfl rfl cA sz97 rfl rfl rfl nofun ?_
  refine as0 rfl rfl<|.fin ?_
  cases H.out; exact r3 i2 rfl (.cons (res_cells rfl underlying97 rfl c97 (mem_at 0 rfl) rfl) (.cons (res_tmp rfl) .nil))
 have H:=H.cf cc
 refine fb rfl (gg rfl) rfl fa55_1<|ld 1 rfl (gg rfl) rfl sc9 rfl rfl<|fb rfl (gg rfl) rfl fa97_0<|ld 2 rfl (gg rfl) rfl sc9 rfl rfl<|bng rfl rfl rfl rfl run_sne<|pf0 rfl rfl rfl<|.fin<|cd H rfl (fun _ H=>?_) (fun _ H=>?_)
 ·
  refine WP.seq<|rg 3 2<|lds 2 rfl trivial rfl sg97 rfl rfl<|sx 0 rfl trivial rfl rfl cA sz97 rfl rfl rfl nofun ?_
  refine as0 rfl rfl<|.fin ?_
  cases H.out; exact r3 i2 rfl (.cons (res_cells rfl underlying97 rfl c97 (mem_at 0 rfl) rfl) (.cons (res_tmp rfl) .nil))
 refine WP.skip<|WP.seq<|WP.seq<|rg 5 0<|lds 2 rfl trivial rfl sg97 rfl rfl<|fb rfl trivial rfl fa55_0<|ld 1 rfl trivial rfl sc9 rfl rfl<|el H fun tc hac H=>cl rfl cal97 rfl (r07_At.c hac)<|bn0 rfl rfl rfl run_ge<|.fin<|cd H rfl (fun _ H=>?_) (fun _ H=>?_)
 ·
  refine WP.seq<|rg 3 2<|lds 2 rfl trivial rfl sg97 rfl rfl<|sx 0 rfl trivial rfl rfl cA sz97 rfl rfl rfl nofun ?_
  refine as0 rfl rfl<|.fin ?_
  cases H.out; exact r3 i2 rfl (.cons (res_cells rfl underlying97 rfl c97 (mem_at 0 rfl) rfl) (.cons (res_tmp rfl) .nil))
 refine WP.skip<|WP.seqr H id (fun pa:Int×Bool=>[(0,agg (RDag.enc a0)),(1,agg (Event.enc a1)),(2,eq (.pointer (some ⟨ba,0,none⟩))),(3,eq (.pointer (some ⟨bc,0,none⟩))),(4,eq (.pointer (some ⟨bd,0,none⟩))),(5,vI 0),(6,vB ta),(7,vI pa.1),(20,vB (!decide (a1.fRoom=a0.fRoom))),(26,vB (decide (0≤tc))),(32,vB pa.2)]) (fun pa:Int×Bool=>[blk bd 97 [vS (⟨#[]⟩:ByteArray),eq (.slice none 0 0)],blk bc 55 (Event.enc a1),blk ba 97 (RDag.enc a0)]++F) (fun pa H=>?_) (fun H=>?_)
 rotate_left
 ·
  refine WP.seq<|rg 1 0<|as0 rfl rfl<|.fin<|WP.block<|wg (sg 3 [0,1,2] 0) fun _ _=>?_
  refine lp (fun j_ (pc:Int)=>r07_Add.l0 k a0 a1 j_ pc) 0 H (fun pc=>[(0,agg (RDag.enc a0)),(1,agg (Event.enc a1)),(2,eq (.pointer (some ⟨ba,0,none⟩))),(3,eq (.pointer (some ⟨bc,0,none⟩))),(4,eq (.pointer (some ⟨bd,0,none⟩))),(5,vI 0),(6,vB ta),(7,vI pc),(20,vB (!decide (a1.fRoom=a0.fRoom))),(26,vB (decide (0≤tc)))]) (fun pc=>[blk bd 97 [vS (⟨#[]⟩:ByteArray),eq (.slice none 0 0)],blk bc 55 (Event.enc a1),blk ba 97 (RDag.enc a0)]++F) ?_
  rintro j_ xa H
  rcases j_ with _ | ja
  ·
   exact (Gets.no H).elim
  try dsimp only at H
  rw [r07_Add.l0] at H
  refine WP.seq<|WP.seq<|rg 5 0<|mv0 rfl rfl<|fb rfl trivial rfl fa55_2<|ld 1 rfl trivial rfl sc53 rfl rfl<|Dv.lenl rfl trivial rfl underlying53<|bn0 rfl rfl rfl run_lt<|.fin<|cd H rfl (fun _ H=>?_) (fun _ H=>?_)
  rotate_left
  ·
   refine WP.exit ?_
   have H:=H.out
   exact jn (xa,decide (xa<(a1.fParents.length:Int))) H
  refine WP.skip<|WP.seq<|WP.block<|WP.seq<|dg Tryz.checked.mixed 8 0<|lds 2 rfl trivial rfl sg97 rfl rfl<|fb rfl trivial rfl fa55_2<|ld 1 rfl trivial rfl sc53 rfl rfl<|mv0 rfl rfl<|gr H fun ga H=>Dv.ixr rfl trivial rfl rfl underlying53 underlying9 c9 ga.1 ga.2<|ldR rfl trivial rfl sc9 rfl<|el H fun te had H=>cl rfl cal97 rfl (r07_At.c had)<|bn0 rfl rfl rfl run_lt<|.fin<|cd H rfl (fun _ H=>?_) (fun _ H=>?_)
  rotate_left
  ·
   exact WP.skip<|rg 3 0<|mv0 rfl rfl<|bn0 rfl rfl rfl run_add<|as0 rfl rfl<|.fin<|bk ja (w64 (xa+1)) H
  refine WP.seq<|rg 3 2<|lds 2 rfl trivial rfl sg97 rfl rfl<|sx 0 rfl trivial rfl rfl cA sz97 rfl rfl rfl nofun ?_
  refine as0 rfl rfl<|.fin ?_
  have H:=H.outr
  cases H.out; exact r3 i2 rfl (.cons (res_cells rfl underlying97 rfl c97 (mem_at 0 rfl) rfl) (.cons (res_tmp rfl) .nil))
 refine WP.seqr H id (fun pd:Unit=>[(0,agg (RDag.enc a0)),(1,agg (Event.enc a1)),(2,eq (.pointer (some ⟨ba,0,none⟩))),(3,eq (.pointer (some ⟨bc,0,none⟩))),(4,eq (.pointer (some ⟨bd,0,none⟩))),(5,vI 0),(6,vB ta),(7,vI pa.1),(20,vB (!decide (a1.fRoom=a0.fRoom))),(26,vB (decide (0≤tc))),(32,vB pa.2),(46,vB (!decide (a1.fThread=(⟨#[]⟩:ByteArray))))]) (fun pd:Unit=>[blk bd 97 [vS (⟨#[]⟩:ByteArray),eq (.slice none 0 0)],blk bc 55 (Event.enc a1),blk ba 97 (RDag.enc a0)]++F) (fun pd H=>?_) (fun H=>?_)
 ·
  refine WP.seq<|rg 1 0<|as0 rfl rfl<|.fin<|WP.seq<|rg 5 8<|mv0 rfl rfl<|fb rfl trivial rfl fa97_1<|ld 2 rfl trivial rfl sc28 rfl rfl<|vg (st_nil Event.K none) fun _ _=>?_
  refine gr H fun gb H=>ap Event.K 0 a0.fL src_sl underlying28 (.inr ⟨_,underlying28⟩) inf55 gb nofun fun va=>?_
  refine as0 rfl rfl<|.fin<|WP.seq<|dg Tryz.checked.mixed 9 160<|fb rfl trivial rfl fa97_0<|ld 3 rfl trivial rfl sc9 rfl rfl<|mv0 rfl rfl<|lds 2 rfl trivial rfl sg55 rfl rfl<|Dv.lit Event.K ([a1]:List Event) (css:=[Event.enc a1]) rfl trivial underlying28 underlying55 c55 z55 rfl (by decide) (by decide) rfl ⟨(cells_agg (Event.K.one _)),trivial⟩ rfl rfl rfl<|gr H fun gi H=>Dv.appx (Kd:=Event.K) (jj:=0) (ys:=([a1]:List Event)) (fun vb:OV=>[own Event.K vb.1 ((([]:List Event)++a0.fL)++([a1]:List Event)),blk bd 97 [vS (⟨#[]⟩:ByteArray),eq (.slice none 0 0)],blk bc 55 (Event.enc a1),blk ba 97 (RDag.enc a0)]++F) rfl trivial rfl rfl rfl src_sl underlying28 (.inr ⟨_,underlying28⟩) inf55 rfl (by decide) gi rfl (fun _=>(pend_by (by kernel_rfl) (pend_by (by kernel_rfl) (pend_by (by kernel_rfl) (pend_in (fun _=>(mem_at 3 rfl)) (pend_in (fun _=>trivial) pend_nil)))))) (fun vb=>?_)
  refine Dv.bld (qs:=[vS a0.fRoom,eq vb.1]) (css:=[[vS a0.fRoom],[eq vb.1]]) rfl trivial underlying97 pl97 z97 rfl ⟨(cells_one (one_eq rfl)),⟨(cells_one one_ov),trivial⟩⟩ rfl rfl<|sx 1 rfl trivial rfl rfl cA sz97 rfl rfl rfl pB ?_
  refine as0 rfl rfl<|.fin<|WP.gh (gh_frz (E':=[(4,eq (.pointer (some ⟨bd,0,none⟩))),(5,vI 0)]) (l':=[blk bd 97 [vS a0.fRoom,sl Event.K ((([]:List Event)++a0.fL)++([a1]:List Event))],blk bc 55 (Event.enc a1),blk ba 97 (RDag.enc a0)]++F) 0 rfl (cve_cons rfl cv_id (cve_cons rfl cv_id cve_nil)) (all2_app (.cons (cva_blk (.cons cv_id (.cons cv_eq .nil))) (.cons cva_id (.cons cva_id .nil))) fun _=>cva_id)) (fun _ _=>?_)
  cases H.out; exact r3 i2 rfl (.cons (res_cells rfl underlying97 rfl c97 (mem_at 0 rfl) rfl) (.cons (res_tmp rfl) .nil))
 refine WP.seq<|rg 3 0<|fb rfl trivial rfl fa55_3<|ld 1 rfl trivial rfl sc9 rfl rfl<|bn0 rfl rfl rfl run_sne<|.fin<|cd H rfl (fun _ H=>?_) (fun _ H=>?_)
 rotate_left
 ·
  refine WP.skip ?_
  have H:=H.out
  exact jn () H
 refine WP.seq<|rg 5 0<|lds 2 rfl trivial rfl sg97 rfl rfl<|fb rfl trivial rfl fa55_3<|ld 1 rfl trivial rfl sc9 rfl rfl<|el H fun tf hae H=>cl rfl cal97 rfl (r07_At.c hae)<|as0 rfl rfl<|.fin<|WP.seq<|WP.seq<|rg 2 0<|mv0 rfl rfl<|bn0 rfl rfl rfl run_lt<|.fin<|cd H rfl (fun _ H=>?_) (fun _ H=>?_)
 ·
  refine WP.seq<|rg 3 2<|lds 2 rfl trivial rfl sg97 rfl rfl<|sx 0 rfl trivial rfl rfl cA sz97 rfl rfl rfl nofun ?_
  refine as0 rfl rfl<|.fin ?_
  have H:=H.outr
  cases H.out; exact r3 i2 rfl (.cons (res_cells rfl underlying97 rfl c97 (mem_at 0 rfl) rfl) (.cons (res_tmp rfl) .nil))
 refine WP.skip<|WP.seq<|rg 16 0<|fb rfl trivial rfl fa97_1<|ld 2 rfl trivial rfl sc28 rfl rfl<|mv0 rfl rfl<|gr H fun gj H=>Dv.ixr rfl trivial rfl rfl underlying28 underlying55 c55 gj.1 gj.2<|fr rfl trivial rfl fa55_3 rfl<|ldR rfl trivial rfl sc9 rfl<|bn0 rfl rfl rfl run_sne<|mv0 rfl rfl ?_
 cases ce:!decide (((Event.K.at a0.fL tf).fThread)=(⟨#[]⟩:ByteArray))
 rotate_left
 ·
  have H:=H.ct ce
  refine sk rfl rfl<|sk rfl rfl<|sk rfl rfl<|sk rfl rfl<|sk rfl rfl<|sk rfl rfl<|sk rfl rfl<|pt0 rfl rfl rfl<|.fin<|WP.cond rfl (fun _=>?_) nofun
  refine WP.seq<|rg 3 2<|lds 2 rfl trivial rfl sg97 rfl rfl<|sx 0 rfl trivial rfl rfl cA sz97 rfl rfl rfl nofun ?_
  refine as0 rfl rfl<|.fin ?_
  have H:=H.outr
  cases H.out; exact r3 i2 rfl (.cons (res_cells rfl underlying97 rfl c97 (mem_at 0 rfl) rfl) (.cons (res_tmp rfl) .nil))
 have H:=H.cf ce
 refine fb rfl (gg rfl) rfl fa97_1<|ld 2 rfl (gg rfl) rfl sc28 rfl rfl<|mvg rfl rfl rfl<|gr H fun gk H=>Dv.ixr rfl (gg rfl) rfl rfl underlying28 underlying55 c55 gk.1 gk.2<|fr rfl (gg rfl) rfl fa55_5 rfl<|ldR rfl (gg rfl) rfl sc3 rfl<|bng rfl rfl rfl rfl run_ne<|pf0 rfl rfl rfl<|.fin<|cd H rfl (fun _ H=>?_) (fun _ H=>?_)
 rotate_left
 ·
  refine WP.skip ?_
  have H:=H.out
  exact jn () H
 refine WP.seq<|rg 3 2<|lds 2 rfl trivial rfl sg97 rfl rfl<|sx 0 rfl trivial rfl rfl cA sz97 rfl rfl rfl nofun ?_
 refine as0 rfl rfl<|.fin ?_
 have H:=H.outr
 cases H.out; exact r3 i2 rfl (.cons (res_cells rfl underlying97 rfl c97 (mem_at 0 rfl) rfl) (.cons (res_tmp rfl) .nil))
theorem r01_Decimal.c:∀ (k:Nat) {a0:Int} {r:ByteArray} (h:r01_Decimal.f k a0=some r),Pt prog 28 [vI a0] (vS r)
  | 0,_,_,h=>by cases h
  | k+1,a0,r,h=>by
    rw [r01_Decimal.f] at h
    refine pb func28 ntmps28 h fun R0 F H=>?_
    refine WP.seq<|rg 1 0<|as0 rfl rfl<|.fin<|WP.seq<|rg 3 0<|mv0 rfl rfl<|bn0 rfl rfl rfl (run_rem (by decide))<|as0 rfl rfl<|.fin<|WP.seqn H id (fun pa:Int=>[(0,vI a0),(2,vS (⟨#[]⟩:ByteArray)),(3,vI pa),(8,vB (decide ((a0.tmod 10)<0)))]) (fun pa:Int=>F) (fun pa H=>?_) (fun H=>?_)
    rotate_left
    ·
     refine WP.seq<|rg 2 0<|mv0 rfl rfl<|bn0 rfl rfl rfl run_lt<|.fin<|cd H rfl (fun _ H=>?_) (fun _ H=>?_)
     rotate_left
     ·
      refine WP.skip ?_
      have H:=H.out
      exact jn (a0.tmod 10) H
     refine rg 3 0<|mv0 rfl rfl<|un0 rfl rfl (run_neg _ _)<|as0 rfl rfl<|.fin ?_
     have H:=H.out
     exact jn (w64 (0-(a0.tmod 10))) H
    refine WP.seq<|rg 6 0<|mv0 rfl rfl<|bn0 rfl rfl rfl run_add<|Dv.cvi rfl trivial rfl underlying3 underlying5<|Dv.lit (intK .u8) ([IntKind.u8.wrap (w64 (48+pa))]:List Int) (css:=[[eq (.int .u8 (IntKind.u8.wrap (w64 (48+pa))))]]) rfl trivial underlying131 underlying5 c5 z5 rfl (by decide) (by decide) rfl ⟨(cells_one (one_eq rfl)),trivial⟩ rfl rfl rfl<|Dv.cvbs rfl trivial rfl underlying131 underlying5 underlying9<|as0 rfl rfl<|.fin<|WP.seq<|WP.seq<|rg 6 0<|mv0 rfl rfl<|bn0 rfl rfl rfl run_gt<|mv0 rfl rfl ?_
    cases cc:decide ((-10)<a0)
    ·
     have H:=H.cf cc
     refine sk rfl rfl<|sk rfl rfl<|pf0 rfl rfl rfl<|.fin<|WP.cond rfl nofun (fun _=>?_)
     refine WP.skip<|WP.seq<|rg 6 0<|mv0 rfl rfl<|bn0 rfl rfl rfl (run_quo (by decide))<|el H fun ta haa H=>cl rfl cal28 rfl (r01_Decimal.c k haa)<|mv0 rfl rfl<|gr H fun ga H=>bn0 rfl rfl rfl (run_cat ga)<|as0 rfl rfl<|.fin ?_
     cases H.out; exact r0 i2 rfl (.cons (res_tmp rfl) .nil)
    have H:=H.ct cc
    refine mvg rfl rfl rfl<|bng rfl rfl rfl rfl run_lt<|pt0 rfl rfl rfl<|.fin<|cd H rfl (fun _ H=>?_) (fun _ H=>?_)
    rotate_left
    ·
     refine WP.skip<|WP.seq<|rg 6 0<|mv0 rfl rfl<|bn0 rfl rfl rfl (run_quo (by decide))<|el H fun tc hac H=>cl rfl cal28 rfl (r01_Decimal.c k hac)<|mv0 rfl rfl<|gr H fun gb H=>bn0 rfl rfl rfl (run_cat gb)<|as0 rfl rfl<|.fin ?_
     cases H.out; exact r0 i2 rfl (.cons (res_tmp rfl) .nil)
    refine WP.seq<|WP.seq<|rg 2 0<|mv0 rfl rfl<|bn0 rfl rfl rfl run_lt<|.fin<|cd H rfl (fun _ H=>?_) (fun _ H=>?_)
    rotate_left
    ·
     refine WP.skip<|WP.seq<|rg 2 0<|mv0 rfl rfl<|as0 rfl rfl<|.fin ?_
     cases H.out; exact r0 i2 rfl (.cons (res_tmp rfl) .nil)
    refine WP.seq<|rg 3 0<|mv0 rfl rfl<|gr H fun gi H=>bn0 rfl rfl rfl (run_cat gi)<|as0 rfl rfl<|.fin ?_
    cases H.out; exact r0 i2 rfl (.cons (res_tmp rfl) .nil)
theorem r01_EventOf.c (h:r01_EventOf.f k a0=some r):Pt prog 63 [vI a0] (vS r):=by
 unfold r01_EventOf.f at h
 refine pb func63 ntmps63 h fun R0 F H=>?_
 refine WP.seq<|rg 1 0<|as0 rfl rfl<|.fin<|WP.seq<|rg 5 0<|mv0 rfl rfl<|el H fun ta haa H=>cl rfl cal12 rfl (r01_Around.c haa)<|el H fun tc hac H=>cl rfl cal28 rfl (r01_Decimal.c _ hac)<|gr H fun ga H=>bn0 rfl rfl rfl (run_cat ga)<|as0 rfl rfl<|.fin ?_
 cases H.out; exact r0 i2 rfl (.cons (res_tmp rfl) .nil)
theorem r07_Made.c (h:r07_Made.f k a0 a1=some r):Pt prog 41 [vS a0,sl GMade.K a1] (agg (RDag.enc r)):=by
 unfold r07_Made.f at h
 refine pb func41 ntmps41 h fun R0 F H=>?_
 refine WP.seq<|rg 1 1<|al rfl trivial zc97 nofun fun ba=>.fin<|WP.seq<|rg 4 12<|mv0 rfl rfl<|Dv.bld (qs:=[vS a0,eq (.slice none 0 0)]) (css:=[[vS a0]]) rfl trivial underlying97 pl97 z97 rfl ⟨(cells_one (one_eq rfl)),trivial⟩ rfl rfl<|al rfl trivial zc97 nofun fun bc=>sx 0 rfl trivial rfl rfl cA sz97 rfl rfl rfl nofun ?_
 refine .fin<|WP.seqn H id (fun pa:Int×Bool×ByteArray×(List Event)=>[(0,vS a0),(1,sl GMade.K a1),(4,eq (.pointer (some ⟨ba,0,none⟩))),(5,eq (.pointer (some ⟨bc,0,none⟩))),(6,vI pa.1),(23,vB pa.2.1)]) (fun pa:Int×Bool×ByteArray×(List Event)=>[blk bc 97 [vS pa.2.2.1,sl Event.K pa.2.2.2],blk ba 97 [vS (⟨#[]⟩:ByteArray),eq (.slice none 0 0)]]++F) (fun pa H=>?_) (fun H=>?_)
 ·
  refine WP.seq<|rg 2 2<|lds 0 rfl trivial rfl sg97 rfl rfl<|sx 1 rfl trivial rfl rfl cA sz97 rfl rfl rfl nofun ?_
  refine .fin ?_
  cases H.out; exact r2 i2 rfl (.cons (res_cells rfl underlying97 rfl c97 (mem_at 1 rfl) rfl) .nil)
 refine WP.seq<|rg 1 0<|as0 rfl rfl<|.fin<|WP.block<|WP.gh (gh_wk (E':=[(0,vS a0),(1,sl GMade.K a1),(4,eq (.pointer (some ⟨ba,0,none⟩))),(5,eq (.pointer (some ⟨bc,0,none⟩))),(6,vI 0)]) (l':=[blk bc 97 [vS a0,sl Event.K ([]:List Event)],blk ba 97 [vS (⟨#[]⟩:ByteArray),eq (.slice none 0 0)]]++F) (wke_cons rfl wk_id (wke_cons rfl wk_id (wke_cons rfl wk_id (wke_cons rfl wk_id (wke_cons rfl wk_id wke_nil))))) (all2_app (.cons (wka_blk (.cons wk_id (.cons wk_nil .nil))) (.cons wka_id .nil)) fun _=>wka_id)) (fun _ _=>?_)
 refine wg (sg 2 [0,1] 0) fun _ _=>?_
 refine lp (fun j_ (pc:Int×ByteArray×(List Event))=>r07_Made.l0 k a0 a1 j_ pc.1 pc.2.1 pc.2.2) (0,a0,([]:List Event)) H (fun pc=>[(0,vS a0),(1,sl GMade.K a1),(4,eq (.pointer (some ⟨ba,0,none⟩))),(5,eq (.pointer (some ⟨bc,0,none⟩))),(6,vI pc.1)]) (fun pc=>[blk bc 97 [vS pc.2.1,sl Event.K pc.2.2],blk ba 97 [vS (⟨#[]⟩:ByteArray),eq (.slice none 0 0)]]++F) ?_
 rintro j_ ⟨xa,xb,xc⟩ H
 rcases j_ with _ | ja
 ·
  exact (Gets.no H).elim
 try dsimp only at H
 rw [r07_Made.l0] at H
 refine WP.seq<|WP.seq<|rg 8 0<|mv0 rfl rfl<|mv0 rfl rfl<|Dv.lenl rfl trivial rfl underlying22<|bn0 rfl rfl rfl run_lt<|mv0 rfl rfl ?_
 cases cc:decide (xa<(a1.length:Int))
 ·
  have H:=H.cf cc
  refine sk rfl rfl<|sk rfl rfl<|pf0 rfl rfl rfl<|.fin<|WP.cond rfl nofun (fun _=>?_)
  refine WP.exit ?_
  have H:=H.out
  exact jn (xa,false,xb,xc) H
 have H:=H.ct cc
 refine mvg rfl rfl rfl<|bng rfl rfl rfl rfl run_lt<|pt0 rfl rfl rfl<|.fin<|cd H rfl (fun _ H=>?_) (fun _ H=>?_)
 rotate_left
 ·
  refine WP.exit ?_
  have H:=H.out
  exact jn (xa,decide (xa<9),xb,xc) H
 refine WP.skip<|WP.seqn H (fun qa:(Int×Int×Bool×Bool×Bool×ByteArray×(List Event)×(List Bool))×OV=>qa.1) (fun qa:(Int×Int×Bool×Bool×Bool×ByteArray×(List Event)×(List Bool))×OV=>[(0,vS a0),(1,sl GMade.K a1),(4,eq (.pointer (some ⟨ba,0,none⟩))),(5,eq (.pointer (some ⟨bc,0,none⟩))),(6,vI xa),(8,eq qa.2.1),(9,vI qa.1.1),(10,vI qa.1.2.1),(23,vB (decide (xa<9))),(58,vB qa.1.2.2.1),(75,vB qa.1.2.2.2.1),(95,vB qa.1.2.2.2.2.1)]) (fun qa:(Int×Int×Bool×Bool×Bool×ByteArray×(List Event)×(List Bool))×OV=>[blk bc 97 [vS qa.1.2.2.2.2.2.1,sl Event.K qa.1.2.2.2.2.2.2.1],blk ba 97 [vS (⟨#[]⟩:ByteArray),eq (.slice none 0 0)],own boolK qa.2.1 qa.1.2.2.2.2.2.2.2]++F) (fun qa H=>?_) (fun H=>?_)
 ·
  obtain ⟨pd,va⟩:=qa
  refine rg 3 0<|mv0 rfl rfl<|bn0 rfl rfl rfl run_add<|as0 rfl rfl<|.fin<|ng (sg 3 [2,0,1] 1) fun _ _=>?_
  exact bk ja (w64 (xa+1),pd.2.2.2.2.2.1,pd.2.2.2.2.2.2.1) H
 refine WP.block<|WP.seq<|dg Tryz.checked.mixed 18 196608<|mv0 rfl rfl<|el H fun ta haa H=>cl rfl cal63 rfl (r01_EventOf.c haa)<|mv0 rfl rfl<|mv0 rfl rfl<|mv0 rfl rfl<|gr H fun ga H=>Dv.ixr rfl trivial rfl rfl underlying22 underlying144 c144 ga.1 ga.2<|fr rfl trivial rfl fa144_0 rfl<|ldR rfl trivial rfl sc3 rfl<|el H fun tc hac H=>cl rfl cal27 rfl (r01_UserOf.c hac)<|mv0 rfl rfl<|mv0 rfl rfl<|gr H fun gb H=>Dv.ixr rfl trivial rfl rfl underlying22 underlying144 c144 gb.1 gb.2<|fr rfl trivial rfl fa144_1 rfl<|ldR rfl trivial rfl sc3 rfl<|el H fun te had H=>cl rfl cal12 rfl (r01_Around.c had)<|Dv.bld (qs:=[vS ta,vS a0,eq (.slice none 0 0),vS (⟨#[]⟩:ByteArray),vS tc,vI te]) (css:=[[vS ta],[vS a0],[vS tc],[vI te]]) rfl trivial underlying55 pl55 z55 rfl ⟨(cells_one (one_eq rfl)),⟨(cells_one (one_eq rfl)),⟨(cells_one (one_eq rfl)),⟨(cells_one (one_eq rfl)),trivial⟩⟩⟩⟩ rfl rfl<|al rfl trivial zc55 (fun _=>(pend_in (fun _=>trivial) (pend_in (fun _=>trivial) (pend_in (fun _=>trivial) (pend_in (fun _=>trivial) (pend_in (fun _=>trivial) (pend_in (fun _=>trivial) (pend_in (fun _=>trivial) (pend_in (fun _=>trivial) (pend_in (fun _=>trivial) (pend_in (fun _=>trivial) (pend_in (fun _=>trivial) (pend_in (fun _=>trivial) (pend_in (fun _=>trivial) (pend_in (fun _=>trivial) (pend_in (fun _=>trivial) (pend_in (fun _=>trivial) pend_nil))))))))))))))))) fun bd=>sx 0 rfl trivial rfl rfl cA sz55 rfl rfl rfl pB ?_
 refine .fin<|WP.seq<|rg 2 1<|gr H fun gi H=>?_
 obtain ⟨ti325,ti325a,ti325b,ti325c,ti325d⟩:=inf4
 refine Dv.mks (Kd:=boolK) (false:Bool) rfl trivial rfl rfl underlying145 ti325a ti325b ti325c ti325d rfl (by decide) rfl gi nofun (fun vb=>?_)
 refine as0 rfl rfl<|.fin<|WP.seqn H id (fun pe:Int×Bool×(List Bool)=>[(0,vS a0),(1,sl GMade.K a1),(4,eq (.pointer (some ⟨ba,0,none⟩))),(5,eq (.pointer (some ⟨bc,0,none⟩))),(6,vI xa),(7,eq (.pointer (some ⟨bd,0,none⟩))),(8,eq vb.1),(9,vI pe.1),(23,vB (decide (xa<9))),(58,vB pe.2.1)]) (fun pe:Int×Bool×(List Bool)=>[blk bd 55 [vS ta,vS a0,eq (.slice none 0 0),vS (⟨#[]⟩:ByteArray),vS tc,vI te],blk bc 97 [vS xb,sl Event.K xc],blk ba 97 [vS (⟨#[]⟩:ByteArray),eq (.slice none 0 0)],own boolK vb.1 pe.2.2]++F) (fun pe H=>?_) (fun H=>?_)
 rotate_left
 ·
  refine WP.seq<|rg 1 0<|as0 rfl rfl<|.fin<|WP.block<|wg (sg 4 [1,2,3,0] 0) fun _ _=>?_
  refine lp (fun j_ (pf:Int×(List Bool))=>r07_Made.l2 k a1 xa j_ pf.1 pf.2) (0,List.replicate (9:Int).toNat (false:Bool)) H (fun pf=>[(0,vS a0),(1,sl GMade.K a1),(4,eq (.pointer (some ⟨ba,0,none⟩))),(5,eq (.pointer (some ⟨bc,0,none⟩))),(6,vI xa),(7,eq (.pointer (some ⟨bd,0,none⟩))),(8,eq vb.1),(9,vI pf.1),(23,vB (decide (xa<9)))]) (fun pf=>[blk bd 55 [vS ta,vS a0,eq (.slice none 0 0),vS (⟨#[]⟩:ByteArray),vS tc,vI te],blk bc 97 [vS xb,sl Event.K xc],blk ba 97 [vS (⟨#[]⟩:ByteArray),eq (.slice none 0 0)],own boolK vb.1 pf.2]++F) ?_
  rintro j_ ⟨xd,xe⟩ H
  rcases j_ with _ | jc
  ·
   exact (Gets.no H).elim
  try dsimp only at H
  rw [r07_Made.l2] at H
  refine WP.seq<|WP.seq<|rg 16 0<|mv0 rfl rfl<|mv0 rfl rfl<|mv0 rfl rfl<|gr H fun gj H=>Dv.ixr rfl trivial rfl rfl underlying22 underlying144 c144 gj.1 gj.2<|fr rfl trivial rfl fa144_2 rfl<|ldR rfl trivial rfl sc61 rfl<|Dv.lenl rfl trivial rfl underlying61<|bn0 rfl rfl rfl run_lt<|mv0 rfl rfl ?_
  cases ce:decide (xd<(((GMade.K.at a1 xa).fParents).length:Int))
  ·
   have H:=H.cf ce
   refine sk rfl rfl<|sk rfl rfl<|pf0 rfl rfl rfl<|mv0 rfl rfl<|sk rfl rfl<|sk rfl rfl<|pf0 rfl rfl rfl<|.fin<|WP.cond rfl nofun (fun _=>?_)
   refine WP.exit ?_
   have H:=H.out
   exact jn (xd,false,xe) H
  have H:=H.ct ce
  refine mvg rfl rfl rfl<|bng rfl rfl rfl rfl run_lt<|pt0 rfl rfl rfl<|mv0 rfl rfl ?_
  cases cg:decide (xd<3)
  ·
   have H:=H.cf cg
   refine sk rfl rfl<|sk rfl rfl<|pf0 rfl rfl rfl<|.fin<|WP.cond rfl nofun (fun _=>?_)
   refine WP.exit ?_
   have H:=H.out
   exact jn (xd,false,xe) H
  have H:=H.ct cg
  refine mvg rfl rfl rfl<|bng rfl rfl rfl rfl run_gt<|pt0 rfl rfl rfl<|.fin<|cd H rfl (fun _ H=>?_) (fun _ H=>?_)
  rotate_left
  ·
   refine WP.exit ?_
   have H:=H.out
   exact jn (xd,decide (0<xa),xe) H
  refine WP.skip<|WP.seq<|WP.block<|rg 13 4096<|mv0 rfl rfl<|mv0 rfl rfl<|mv0 rfl rfl<|gr H fun gk H=>Dv.ixr rfl trivial rfl rfl underlying22 underlying144 c144 gk.1 gk.2<|fr rfl trivial rfl fa144_2 rfl<|ldR rfl trivial rfl sc61 rfl<|mv0 rfl rfl<|gr H fun gl H=>Dv.ixr rfl trivial rfl rfl underlying61 underlying3 c3 gl.1 gl.2<|ldR rfl trivial rfl sc3 rfl<|mv0 rfl rfl<|el H fun tf hae H=>cl rfl cal12 rfl (r01_Around.c hae)<|gr H fun gn H=>?_
  have haf:tf.toNat<xe.length:=idx_lt gn
  exact Dv.ixw rfl trivial rfl (mem_at 3 rfl) rfl underlying145 underlying4 c4 gn.1 gn.2<|Dv.stw (j:=tf.toNat) (f:=0) (jj:=3) true rfl trivial rfl rfl (cells_one (one_eq rfl)) underlying4 c4 rfl rfl haf (Nat.le_of_ble_eq_true rfl) rfl nofun<|.fin<|rg 3 0<|mv0 rfl rfl<|bn0 rfl rfl rfl run_add<|as0 rfl rfl<|.fin<|bk jc (w64 (xd+1),xe.set tf.toNat true) H
 refine WP.seqn H (fun qb:(Int×Bool×(List ByteArray))×OV=>qb.1) (fun qb:(Int×Bool×(List ByteArray))×OV=>[(0,vS a0),(1,sl GMade.K a1),(4,eq (.pointer (some ⟨ba,0,none⟩))),(5,eq (.pointer (some ⟨bc,0,none⟩))),(6,vI xa),(7,eq (.pointer (some ⟨bd,0,none⟩))),(8,eq vb.1),(9,vI pe.1),(10,vI qb.1.1),(23,vB (decide (xa<9))),(58,vB pe.2.1),(75,vB qb.1.2.1)]) (fun qb:(Int×Bool×(List ByteArray))×OV=>[blk bd 55 [vS ta,vS a0,eq qb.2.1,vS (⟨#[]⟩:ByteArray),vS tc,vI te],blk bc 97 [vS xb,sl Event.K xc],blk ba 97 [vS (⟨#[]⟩:ByteArray),eq (.slice none 0 0)],own boolK vb.1 pe.2.2,own strK qb.2.1 qb.1.2.2]++F) (fun qb H=>?_) (fun H=>?_)
 rotate_left
 ·
  refine WP.seq<|rg 1 0<|as0 rfl rfl<|.fin<|WP.block<|wg (st_nil strK none) fun _ _=>?_
  refine wg (sg 5 [1,2,3,4,0] 0) fun _ _=>?_
  refine lp (fun j_ (pg:Int×(List ByteArray)×OV)=>r07_Made.l1 k xa pe j_ pg.1 pg.2.1) (0,([]:List ByteArray),nilV) H (fun pg=>[(0,vS a0),(1,sl GMade.K a1),(4,eq (.pointer (some ⟨ba,0,none⟩))),(5,eq (.pointer (some ⟨bc,0,none⟩))),(6,vI xa),(7,eq (.pointer (some ⟨bd,0,none⟩))),(8,eq vb.1),(9,vI pe.1),(10,vI pg.1),(23,vB (decide (xa<9))),(58,vB pe.2.1)]) (fun pg=>[blk bd 55 [vS ta,vS a0,eq pg.2.2.1,vS (⟨#[]⟩:ByteArray),vS tc,vI te],blk bc 97 [vS xb,sl Event.K xc],blk ba 97 [vS (⟨#[]⟩:ByteArray),eq (.slice none 0 0)],own boolK vb.1 pe.2.2,own strK pg.2.2.1 pg.2.1]++F) ?_
  rintro j_ ⟨xf,xg,vd⟩ H
  rcases j_ with _ | jd
  ·
   exact (Gets.no H).elim
  try dsimp only at H
  rw [r07_Made.l1] at H
  refine WP.seq<|WP.seq<|rg 3 0<|mv0 rfl rfl<|mv0 rfl rfl<|bn0 rfl rfl rfl run_lt<|.fin<|cd H rfl (fun _ H=>?_) (fun _ H=>?_)
  rotate_left
  ·
   refine WP.exit ?_
   have H:=H.out
   exact jn ((xf,decide (xf<xa),xg),vd) H
  refine WP.skip<|WP.seq<|WP.block<|WP.seq<|rg 4 0<|mv0 rfl rfl<|mv0 rfl rfl<|gr H fun go H=>?_
  have hag:xf.toNat<pe.2.2.length:=idx_lt go
  refine Dv.ixw rfl trivial rfl (mem_at 3 rfl) rfl underlying145 underlying4 c4 go.1 go.2<|Dv.ldw (j:=xf.toNat) (f:=0) (p:=vB (pe.2.2.getD xf.toNat default)) rfl trivial rfl (mem_at 3 rfl) hag underlying4 rfl rfl<|.fin<|cd H rfl (fun _ H=>?_) (fun _ H=>?_)
  rotate_left
  ·
   exact WP.skip<|rg 3 0<|mv0 rfl rfl<|bn0 rfl rfl rfl run_add<|as0 rfl rfl<|.fin<|bk jd (w64 (xf+1),xg,vd) H
  refine dg Tryz.checked.mixed 8 160<|fb rfl trivial rfl fa55_2<|ld 0 rfl trivial rfl sc53 rfl rfl<|mv0 rfl rfl<|el H fun tg hah H=>cl rfl cal63 rfl (r01_EventOf.c hah)<|Dv.lit strK ([tg]:List ByteArray) (css:=[[vS tg]]) rfl trivial underlying53 underlying9 c9 z9 rfl (by decide) (by decide) rfl ⟨(cells_one (one_eq rfl)),trivial⟩ rfl rfl rfl<|gr H fun gp H=>ap strK 4 ([tg]:List ByteArray) src_sl underlying53 (.inr ⟨_,underlying53⟩) inf9 gp pB fun vh=>?_
  refine fb rfl trivial rfl fa55_2<|sx 0 rfl trivial rfl rfl (cells_one one_ov) sz53 rfl rfl rfl pB ?_
  exact .fin<|rg 3 0<|mv0 rfl rfl<|bn0 rfl rfl rfl run_add<|as0 rfl rfl<|.fin<|bk jd (w64 (xf+1),xg++([tg]:List ByteArray),vh) H
 obtain ⟨ph,vi⟩:=qb
 refine WP.seq<|WP.seq<|rg 7 0<|fb rfl trivial rfl fa55_5<|ld 0 rfl trivial rfl sc3 rfl rfl<|bn0 rfl rfl rfl run_eq<|mv0 rfl rfl ?_
 cases ci:(te==0)
 ·
  have H:=H.cf ci
  refine sk rfl rfl<|sk rfl rfl<|pf0 rfl rfl rfl<|.fin<|WP.cond rfl nofun (fun _=>?_)
  refine WP.skip<|WP.seq<|rg 9 192<|lds 1 rfl trivial rfl sg97 rfl rfl<|lds 0 rfl trivial rfl sg55 rfl rfl<|Dv.gh (gh_frz (E':=[(0,vS a0),(1,sl GMade.K a1),(4,eq (.pointer (some ⟨ba,0,none⟩))),(5,eq (.pointer (some ⟨bc,0,none⟩))),(6,vI xa),(7,eq (.pointer (some ⟨bd,0,none⟩))),(8,eq vb.1),(9,vI pe.1),(10,vI ph.1),(23,vB (decide (xa<9))),(58,vB pe.2.1),(75,vB ph.2.1),(95,vB false),(129,agg [vS xb,sl Event.K xc]),(130,agg [vS ta,vS a0,sl strK ph.2.2,vS (⟨#[]⟩:ByteArray),vS tc,vI te])]) (l':=[blk bd 55 [vS ta,vS a0,sl strK ph.2.2,vS (⟨#[]⟩:ByteArray),vS tc,vI te],blk bc 97 [vS xb,sl Event.K xc],blk ba 97 [vS (⟨#[]⟩:ByteArray),eq (.slice none 0 0)],own boolK vb.1 pe.2.2]++F) 4 rfl (cve_cons rfl cv_id (cve_cons rfl cv_id (cve_cons rfl cv_id (cve_cons rfl cv_id (cve_cons rfl cv_id (cve_cons rfl cv_id (cve_cons rfl cv_id (cve_cons rfl cv_id (cve_cons rfl cv_id (cve_cons rfl cv_id (cve_cons rfl cv_id (cve_cons rfl cv_id (cve_cons rfl cv_id (cve_cons rfl cv_id (cve_cons rfl (cv_agg (.cons cv_id (.cons cv_id (.cons cv_eq (.cons cv_id (.cons cv_id (.cons cv_id .nil))))))) cve_nil))))))))))))))) (all2_app (.cons (cva_blk (.cons cv_id (.cons cv_id (.cons cv_eq (.cons cv_id (.cons cv_id (.cons cv_id .nil))))))) (.cons cva_id (.cons cva_id (.cons cva_id .nil)))) fun _=>cva_id)) (fun _ _=>?_)
  refine el H fun tj hai H=>cl rfl cal57 rfl (r07_Add.c hai)<|mv0 rfl rfl<|ex0 rfl trivial rfl rfl<|ex0 rfl trivial rfl rfl<|al rfl trivial zc97 nofun fun be=>sx 0 rfl trivial rfl rfl cA sz97 rfl rfl rfl nofun ?_
  refine as0 rfl rfl<|.fin<|rg 2 2<|lds 0 rfl trivial rfl sg97 rfl rfl<|sx 2 rfl trivial rfl rfl cA sz97 rfl rfl rfl nofun ?_
  refine .fin ?_
  have H:=H.out
  refine ng (sg 5 [0,1,2,3,4] 2) fun _ _=>?_
  exact jn ((pe.1,ph.1,pe.2.1,ph.2.1,false,tj.1.fRoom,tj.1.fL,pe.2.2),vb) H
 have H:=H.ct ci
 refine mvg rfl rfl rfl<|bng rfl rfl rfl rfl run_gt<|pt0 rfl rfl rfl<|.fin<|cd H rfl (fun _ H=>?_) (fun _ H=>?_)
 rotate_left
 ·
  refine WP.skip<|WP.seq<|rg 9 192<|lds 1 rfl trivial rfl sg97 rfl rfl<|lds 0 rfl trivial rfl sg55 rfl rfl<|Dv.gh (gh_frz (E':=[(0,vS a0),(1,sl GMade.K a1),(4,eq (.pointer (some ⟨ba,0,none⟩))),(5,eq (.pointer (some ⟨bc,0,none⟩))),(6,vI xa),(7,eq (.pointer (some ⟨bd,0,none⟩))),(8,eq vb.1),(9,vI pe.1),(10,vI ph.1),(23,vB (decide (xa<9))),(58,vB pe.2.1),(75,vB ph.2.1),(95,vB (decide (0<xa))),(129,agg [vS xb,sl Event.K xc]),(130,agg [vS ta,vS a0,sl strK ph.2.2,vS (⟨#[]⟩:ByteArray),vS tc,vI te])]) (l':=[blk bd 55 [vS ta,vS a0,sl strK ph.2.2,vS (⟨#[]⟩:ByteArray),vS tc,vI te],blk bc 97 [vS xb,sl Event.K xc],blk ba 97 [vS (⟨#[]⟩:ByteArray),eq (.slice none 0 0)],own boolK vb.1 pe.2.2]++F) 4 rfl (cve_cons rfl cv_id (cve_cons rfl cv_id (cve_cons rfl cv_id (cve_cons rfl cv_id (cve_cons rfl cv_id (cve_cons rfl cv_id (cve_cons rfl cv_id (cve_cons rfl cv_id (cve_cons rfl cv_id (cve_cons rfl cv_id (cve_cons rfl cv_id (cve_cons rfl cv_id (cve_cons rfl cv_id (cve_cons rfl cv_id (cve_cons rfl (cv_agg (.cons cv_id (.cons cv_id (.cons cv_eq (.cons cv_id (.cons cv_id (.cons cv_id .nil))))))) cve_nil))))))))))))))) (all2_app (.cons (cva_blk (.cons cv_id (.cons cv_id (.cons cv_eq (.cons cv_id (.cons cv_id (.cons cv_id .nil))))))) (.cons cva_id (.cons cva_id (.cons cva_id .nil)))) fun _=>cva_id)) (fun _ _=>?_)
  refine el H fun tm haj H=>cl rfl cal57 rfl (r07_Add.c haj)<|mv0 rfl rfl<|ex0 rfl trivial rfl rfl<|ex0 rfl trivial rfl rfl<|al rfl trivial zc97 nofun fun bg=>sx 0 rfl trivial rfl rfl cA sz97 rfl rfl rfl nofun ?_
  refine as0 rfl rfl<|.fin<|rg 2 2<|lds 0 rfl trivial rfl sg97 rfl rfl<|sx 2 rfl trivial rfl rfl cA sz97 rfl rfl rfl nofun ?_
  refine .fin ?_
  have H:=H.out
  refine ng (sg 5 [0,1,2,3,4] 2) fun _ _=>?_
  exact jn ((pe.1,ph.1,pe.2.1,ph.2.1,decide (0<xa),tm.1.fRoom,tm.1.fL,pe.2.2),vb) H
 refine WP.seq<|rg 9 0<|mv0 rfl rfl<|mv0 rfl rfl<|gr H fun gq H=>Dv.ixr rfl trivial rfl rfl underlying22 underlying144 c144 gq.1 gq.2<|fr rfl trivial rfl fa144_3 rfl<|ldR rfl trivial rfl sc3 rfl<|mv0 rfl rfl<|bn0 rfl rfl rfl run_mul<|el H fun tn hak H=>cl rfl cal12 rfl (r01_Around.c hak)<|as0 rfl rfl<|.fin<|WP.seq<|rg 21 0<|mv0 rfl rfl<|mv0 rfl rfl<|bn0 rfl rfl rfl run_lt<|mv0 rfl rfl ?_
 cases cj:decide (tn<xa)
 ·
  have H:=H.cf cj
  refine sk rfl rfl<|sk rfl rfl<|sk rfl rfl<|sk rfl rfl<|sk rfl rfl<|sk rfl rfl<|sk rfl rfl<|pf0 rfl rfl rfl<|mv0 rfl rfl<|sk rfl rfl<|sk rfl rfl<|sk rfl rfl<|sk rfl rfl<|sk rfl rfl<|sk rfl rfl<|sk rfl rfl<|pf0 rfl rfl rfl<|.fin<|WP.cond rfl nofun (fun _=>?_)
  refine WP.skip<|WP.seq<|rg 9 192<|lds 1 rfl trivial rfl sg97 rfl rfl<|lds 0 rfl trivial rfl sg55 rfl rfl<|Dv.gh (gh_frz (E':=[(0,vS a0),(1,sl GMade.K a1),(4,eq (.pointer (some ⟨ba,0,none⟩))),(5,eq (.pointer (some ⟨bc,0,none⟩))),(6,vI xa),(7,eq (.pointer (some ⟨bd,0,none⟩))),(8,eq vb.1),(9,vI pe.1),(10,vI ph.1),(11,vI tn),(23,vB (decide (xa<9))),(58,vB pe.2.1),(75,vB ph.2.1),(95,vB (decide (0<xa))),(124,vB false),(129,agg [vS xb,sl Event.K xc]),(130,agg [vS ta,vS a0,sl strK ph.2.2,vS (⟨#[]⟩:ByteArray),vS tc,vI te])]) (l':=[blk bd 55 [vS ta,vS a0,sl strK ph.2.2,vS (⟨#[]⟩:ByteArray),vS tc,vI te],blk bc 97 [vS xb,sl Event.K xc],blk ba 97 [vS (⟨#[]⟩:ByteArray),eq (.slice none 0 0)],own boolK vb.1 pe.2.2]++F) 4 rfl (cve_cons rfl cv_id (cve_cons rfl cv_id (cve_cons rfl cv_id (cve_cons rfl cv_id (cve_cons rfl cv_id (cve_cons rfl cv_id (cve_cons rfl cv_id (cve_cons rfl cv_id (cve_cons rfl cv_id (cve_cons rfl cv_id (cve_cons rfl cv_id (cve_cons rfl cv_id (cve_cons rfl cv_id (cve_cons rfl cv_id (cve_cons rfl cv_id (cve_cons rfl cv_id (cve_cons rfl (cv_agg (.cons cv_id (.cons cv_id (.cons cv_eq (.cons cv_id (.cons cv_id (.cons cv_id .nil))))))) cve_nil))))))))))))))))) (all2_app (.cons (cva_blk (.cons cv_id (.cons cv_id (.cons cv_eq (.cons cv_id (.cons cv_id (.cons cv_id .nil))))))) (.cons cva_id (.cons cva_id (.cons cva_id .nil)))) fun _=>cva_id)) (fun _ _=>?_)
  refine el H fun tp ham H=>cl rfl cal57 rfl (r07_Add.c ham)<|mv0 rfl rfl<|ex0 rfl trivial rfl rfl<|ex0 rfl trivial rfl rfl<|al rfl trivial zc97 nofun fun bh=>sx 0 rfl trivial rfl rfl cA sz97 rfl rfl rfl nofun ?_
  refine as0 rfl rfl<|.fin<|rg 2 2<|lds 0 rfl trivial rfl sg97 rfl rfl<|sx 2 rfl trivial rfl rfl cA sz97 rfl rfl rfl nofun ?_
  refine .fin ?_
  have H:=H.out
  refine ng (sg 5 [0,1,2,3,4] 2) fun _ _=>?_
  exact jn ((pe.1,ph.1,pe.2.1,ph.2.1,decide (0<xa),tp.1.fRoom,tp.1.fL,pe.2.2),vb) H
 have H:=H.ct cj
 refine fb rfl (gg rfl) rfl fa97_1<|ld 1 rfl (gg rfl) rfl sc28 rfl rfl<|mvg rfl rfl rfl<|gr H fun gt H=>Dv.ixr rfl (gg rfl) rfl rfl underlying28 underlying55 c55 gt.1 gt.2<|fr rfl (gg rfl) rfl fa55_5 rfl<|ldR rfl (gg rfl) rfl sc3 rfl<|bng rfl rfl rfl rfl run_eq<|pt0 rfl rfl rfl<|mv0 rfl rfl ?_
 cases ck:(((Event.K.at xc tn).fDoes)==0)
 ·
  have H:=H.cf ck
  refine sk rfl rfl<|sk rfl rfl<|sk rfl rfl<|sk rfl rfl<|sk rfl rfl<|sk rfl rfl<|sk rfl rfl<|pf0 rfl rfl rfl<|.fin<|WP.cond rfl nofun (fun _=>?_)
  refine WP.skip<|WP.seq<|rg 9 192<|lds 1 rfl trivial rfl sg97 rfl rfl<|lds 0 rfl trivial rfl sg55 rfl rfl<|Dv.gh (gh_frz (E':=[(0,vS a0),(1,sl GMade.K a1),(4,eq (.pointer (some ⟨ba,0,none⟩))),(5,eq (.pointer (some ⟨bc,0,none⟩))),(6,vI xa),(7,eq (.pointer (some ⟨bd,0,none⟩))),(8,eq vb.1),(9,vI pe.1),(10,vI ph.1),(11,vI tn),(23,vB (decide (xa<9))),(58,vB pe.2.1),(75,vB ph.2.1),(95,vB (decide (0<xa))),(124,vB false),(129,agg [vS xb,sl Event.K xc]),(130,agg [vS ta,vS a0,sl strK ph.2.2,vS (⟨#[]⟩:ByteArray),vS tc,vI te])]) (l':=[blk bd 55 [vS ta,vS a0,sl strK ph.2.2,vS (⟨#[]⟩:ByteArray),vS tc,vI te],blk bc 97 [vS xb,sl Event.K xc],blk ba 97 [vS (⟨#[]⟩:ByteArray),eq (.slice none 0 0)],own boolK vb.1 pe.2.2]++F) 4 rfl (cve_cons rfl cv_id (cve_cons rfl cv_id (cve_cons rfl cv_id (cve_cons rfl cv_id (cve_cons rfl cv_id (cve_cons rfl cv_id (cve_cons rfl cv_id (cve_cons rfl cv_id (cve_cons rfl cv_id (cve_cons rfl cv_id (cve_cons rfl cv_id (cve_cons rfl cv_id (cve_cons rfl cv_id (cve_cons rfl cv_id (cve_cons rfl cv_id (cve_cons rfl cv_id (cve_cons rfl (cv_agg (.cons cv_id (.cons cv_id (.cons cv_eq (.cons cv_id (.cons cv_id (.cons cv_id .nil))))))) cve_nil))))))))))))))))) (all2_app (.cons (cva_blk (.cons cv_id (.cons cv_id (.cons cv_eq (.cons cv_id (.cons cv_id (.cons cv_id .nil))))))) (.cons cva_id (.cons cva_id (.cons cva_id .nil)))) fun _=>cva_id)) (fun _ _=>?_)
  refine el H fun tq han H=>cl rfl cal57 rfl (r07_Add.c han)<|mv0 rfl rfl<|ex0 rfl trivial rfl rfl<|ex0 rfl trivial rfl rfl<|al rfl trivial zc97 nofun fun bi=>sx 0 rfl trivial rfl rfl cA sz97 rfl rfl rfl nofun ?_
  refine as0 rfl rfl<|.fin<|rg 2 2<|lds 0 rfl trivial rfl sg97 rfl rfl<|sx 2 rfl trivial rfl rfl cA sz97 rfl rfl rfl nofun ?_
  refine .fin ?_
  have H:=H.out
  refine ng (sg 5 [0,1,2,3,4] 2) fun _ _=>?_
  exact jn ((pe.1,ph.1,pe.2.1,ph.2.1,decide (0<xa),tq.1.fRoom,tq.1.fL,pe.2.2),vb) H
 have H:=H.ct ck
 refine fb rfl (gg rfl) rfl fa97_1<|ld 1 rfl (gg rfl) rfl sc28 rfl rfl<|mvg rfl rfl rfl<|gr H fun gu H=>Dv.ixr rfl (gg rfl) rfl rfl underlying28 underlying55 c55 gu.1 gu.2<|fr rfl (gg rfl) rfl fa55_3 rfl<|ldR rfl (gg rfl) rfl sc9 rfl<|bng rfl rfl rfl rfl run_seq<|pt0 rfl rfl rfl<|.fin<|cd H rfl (fun _ H=>?_) (fun _ H=>?_)
 rotate_left
 ·
  refine WP.skip<|WP.seq<|rg 9 192<|lds 1 rfl trivial rfl sg97 rfl rfl<|lds 0 rfl trivial rfl sg55 rfl rfl<|Dv.gh (gh_frz (E':=[(0,vS a0),(1,sl GMade.K a1),(4,eq (.pointer (some ⟨ba,0,none⟩))),(5,eq (.pointer (some ⟨bc,0,none⟩))),(6,vI xa),(7,eq (.pointer (some ⟨bd,0,none⟩))),(8,eq vb.1),(9,vI pe.1),(10,vI ph.1),(11,vI tn),(23,vB (decide (xa<9))),(58,vB pe.2.1),(75,vB ph.2.1),(95,vB (decide (0<xa))),(124,vB (decide (((Event.K.at xc tn).fThread)=(⟨#[]⟩:ByteArray)))),(129,agg [vS xb,sl Event.K xc]),(130,agg [vS ta,vS a0,sl strK ph.2.2,vS (⟨#[]⟩:ByteArray),vS tc,vI te])]) (l':=[blk bd 55 [vS ta,vS a0,sl strK ph.2.2,vS (⟨#[]⟩:ByteArray),vS tc,vI te],blk bc 97 [vS xb,sl Event.K xc],blk ba 97 [vS (⟨#[]⟩:ByteArray),eq (.slice none 0 0)],own boolK vb.1 pe.2.2]++F) 4 rfl (cve_cons rfl cv_id (cve_cons rfl cv_id (cve_cons rfl cv_id (cve_cons rfl cv_id (cve_cons rfl cv_id (cve_cons rfl cv_id (cve_cons rfl cv_id (cve_cons rfl cv_id (cve_cons rfl cv_id (cve_cons rfl cv_id (cve_cons rfl cv_id (cve_cons rfl cv_id (cve_cons rfl cv_id (cve_cons rfl cv_id (cve_cons rfl cv_id (cve_cons rfl cv_id (cve_cons rfl (cv_agg (.cons cv_id (.cons cv_id (.cons cv_eq (.cons cv_id (.cons cv_id (.cons cv_id .nil))))))) cve_nil))))))))))))))))) (all2_app (.cons (cva_blk (.cons cv_id (.cons cv_id (.cons cv_eq (.cons cv_id (.cons cv_id (.cons cv_id .nil))))))) (.cons cva_id (.cons cva_id (.cons cva_id .nil)))) fun _=>cva_id)) (fun _ _=>?_)
  refine el H fun tu hao H=>cl rfl cal57 rfl (r07_Add.c hao)<|mv0 rfl rfl<|ex0 rfl trivial rfl rfl<|ex0 rfl trivial rfl rfl<|al rfl trivial zc97 nofun fun bj=>sx 0 rfl trivial rfl rfl cA sz97 rfl rfl rfl nofun ?_
  refine as0 rfl rfl<|.fin<|rg 2 2<|lds 0 rfl trivial rfl sg97 rfl rfl<|sx 2 rfl trivial rfl rfl cA sz97 rfl rfl rfl nofun ?_
  refine .fin ?_
  have H:=H.out
  refine ng (sg 5 [0,1,2,3,4] 2) fun _ _=>?_
  exact jn ((pe.1,ph.1,pe.2.1,ph.2.1,decide (0<xa),tu.1.fRoom,tu.1.fL,pe.2.2),vb) H
 refine rg 4 8<|mv0 rfl rfl<|el H fun tv hap H=>cl rfl cal63 rfl (r01_EventOf.c hap)<|fb rfl trivial rfl fa55_3<|sx 0 rfl trivial rfl rfl cE sz9 rfl rfl rfl nofun ?_
 refine .fin<|WP.seq<|rg 9 192<|lds 1 rfl trivial rfl sg97 rfl rfl<|lds 0 rfl trivial rfl sg55 rfl rfl<|Dv.gh (gh_frz (E':=[(0,vS a0),(1,sl GMade.K a1),(4,eq (.pointer (some ⟨ba,0,none⟩))),(5,eq (.pointer (some ⟨bc,0,none⟩))),(6,vI xa),(7,eq (.pointer (some ⟨bd,0,none⟩))),(8,eq vb.1),(9,vI pe.1),(10,vI ph.1),(11,vI tn),(23,vB (decide (xa<9))),(58,vB pe.2.1),(75,vB ph.2.1),(95,vB (decide (0<xa))),(124,vB (decide (((Event.K.at xc tn).fThread)=(⟨#[]⟩:ByteArray)))),(129,agg [vS xb,sl Event.K xc]),(130,agg [vS ta,vS a0,sl strK ph.2.2,vS tv,vS tc,vI te])]) (l':=[blk bd 55 [vS ta,vS a0,sl strK ph.2.2,vS tv,vS tc,vI te],blk bc 97 [vS xb,sl Event.K xc],blk ba 97 [vS (⟨#[]⟩:ByteArray),eq (.slice none 0 0)],own boolK vb.1 pe.2.2]++F) 4 rfl (cve_cons rfl cv_id (cve_cons rfl cv_id (cve_cons rfl cv_id (cve_cons rfl cv_id (cve_cons rfl cv_id (cve_cons rfl cv_id (cve_cons rfl cv_id (cve_cons rfl cv_id (cve_cons rfl cv_id (cve_cons rfl cv_id (cve_cons rfl cv_id (cve_cons rfl cv_id (cve_cons rfl cv_id (cve_cons rfl cv_id (cve_cons rfl cv_id (cve_cons rfl cv_id (cve_cons rfl (cv_agg (.cons cv_id (.cons cv_id (.cons cv_eq (.cons cv_id (.cons cv_id (.cons cv_id .nil))))))) cve_nil))))))))))))))))) (all2_app (.cons (cva_blk (.cons cv_id (.cons cv_id (.cons cv_eq (.cons cv_id (.cons cv_id (.cons cv_id .nil))))))) (.cons cva_id (.cons cva_id (.cons cva_id .nil)))) fun _=>cva_id)) (fun _ _=>?_)
 refine el H fun tw haq H=>cl rfl cal57 rfl (r07_Add.c haq)<|mv0 rfl rfl<|ex0 rfl trivial rfl rfl<|ex0 rfl trivial rfl rfl<|al rfl trivial zc97 nofun fun bl=>sx 0 rfl trivial rfl rfl cA sz97 rfl rfl rfl nofun ?_
 refine as0 rfl rfl<|.fin<|rg 2 2<|lds 0 rfl trivial rfl sg97 rfl rfl<|sx 2 rfl trivial rfl rfl cA sz97 rfl rfl rfl nofun ?_
 refine .fin ?_
 have H:=H.out
 refine ng (sg 5 [0,1,2,3,4] 2) fun _ _=>?_
 exact jn ((pe.1,ph.1,pe.2.1,ph.2.1,decide (0<xa),tw.1.fRoom,tw.1.fL,pe.2.2),vb) H
theorem r10_Made.c (h:r10_Made.f k a0 a1=some r):Tr prog 11 [sl GMade.K a0,sl GMade.K a1] [] (γ:=OV) (fun _=>True) (fun g=>eq g.1) (fun g=>[own Event.K g.1 r]):=by
 unfold r10_Made.f at h
 refine tb func11 ntmps11 h fun R0 F H=>?_
 refine WP.seq<|rg 1 0<|as0 rfl rfl<|.fin<|WP.seq<|rg 1 0<|as0 rfl rfl<|.fin<|WP.seq<|rg 7 32<|mv0 rfl rfl<|el H fun ta haa H=>cl rfl cal26 rfl (r01_RoomOf.c haa)<|mv0 rfl rfl<|el H fun tc hac H=>cl rfl cal41 rfl (r07_Made.c hac)<|Dv.fld rfl trivial rfl underlying97 rfl underlying28 rfl rfl<|vg (st_nil Event.K none) fun _ _=>?_
 refine gr H fun ga H=>ap Event.K 0 tc.fL src_sl underlying28 (.inr ⟨_,underlying28⟩) inf55 ga nofun fun va=>?_
 refine as0 rfl rfl<|.fin<|WP.seq<|rg 7 32<|mv0 rfl rfl<|el H fun te had H=>cl rfl cal26 rfl (r01_RoomOf.c had)<|mv0 rfl rfl<|el H fun tf hae H=>cl rfl cal41 rfl (r07_Made.c hae)<|Dv.fld rfl trivial rfl underlying97 rfl underlying28 rfl rfl<|gr H fun gb H=>ap Event.K 0 tf.fL src_sl underlying28 (.inr ⟨_,underlying28⟩) inf55 gb nofun fun vb=>?_
 refine as0 rfl rfl<|.fin ?_
 obtain rfl:=Gets.out H
 exact rt i2 rfl vb 1 [0] 0 (.cons (res_tmp rfl) .nil)
theorem edu_asks_1.c (h:edu_asks_1.f a0 a1 a2=some r):Pt prog 131 [vI a0,vI a1,vI a2] (vB r):=by
 unfold edu_asks_1.f at h
 refine pb func131 ntmps131 h fun R0 F H=>?_
 refine WP.seq<|rg 1 0<|as0 rfl rfl<|.fin<|WP.seq<|rg 9 0<|mv0 rfl rfl<|mv0 rfl rfl<|bn0 rfl rfl rfl run_ge<|mv0 rfl rfl ?_
 cases cc:decide (a1≤a0)
 ·
  have H:=H.cf cc
  refine sk rfl rfl<|sk rfl rfl<|sk rfl rfl<|pf0 rfl rfl rfl<|as0 rfl rfl<|.fin ?_
  cases H.out; exact r0 i2 rfl (.cons (res_tmp rfl) .nil)
 have H:=H.ct cc
 refine mvg rfl rfl rfl<|mvg rfl rfl rfl<|bng rfl rfl rfl rfl run_le<|pt0 rfl rfl rfl<|as0 rfl rfl<|.fin ?_
 cases H.out; exact r0 i2 rfl (.cons (res_tmp rfl) .nil)
theorem edu_asks_2.c (h:edu_asks_2.f a0=some r):Pt prog 132 [agg (Edu.enc a0)] (vB r):=by
 unfold edu_asks_2.f at h
 refine pb func132 ntmps132 h fun R0 F H=>?_
 refine WP.seq<|rg 2 1<|Dv.box rfl trivial rfl cA nofun fun ba=>as0 rfl rfl<|.fin<|WP.seq<|rg 1 0<|as0 rfl rfl<|.fin ?_
 cases H.out; exact r1 i2 rfl (.cons (res_tmp rfl) .nil)
theorem stringslite_HasPrefix.c (h:stringslite_HasPrefix.f a0 a1=some r):Pt prog 180 [vS a0,vS a1] (vB r):=by
 unfold stringslite_HasPrefix.f at h
 refine pb func180 ntmps180 h fun R0 F H=>?_
 refine WP.seq<|rg 1 0<|as0 rfl rfl<|.fin<|WP.seq<|rg 14 0<|mv0 rfl rfl<|Dv.lens rfl trivial rfl underlying9<|mv0 rfl rfl<|Dv.lens rfl trivial rfl underlying9<|bn0 rfl rfl rfl run_ge<|mv0 rfl rfl ?_
 cases cc:decide ((a1.size:Int)≤(a0.size:Int))
 ·
  have H:=H.cf cc
  refine sk rfl rfl<|sk rfl rfl<|sk rfl rfl<|sk rfl rfl<|sk rfl rfl<|sk rfl rfl<|pf0 rfl rfl rfl<|as0 rfl rfl<|.fin ?_
  cases H.out; exact r0 i2 rfl (.cons (res_tmp rfl) .nil)
 have H:=H.ct cc
 refine mvg rfl rfl rfl<|mvg rfl rfl rfl<|Dv.lens rfl (gg rfl) rfl underlying9<|gr H fun ga H=>Dv.sss rfl (gg rfl) rfl underlying9 bdE_none (bdE_some rfl ga.1) ga.2.1 ga.2.2<|mvg rfl rfl rfl<|bng rfl rfl rfl rfl run_seq<|pt0 rfl rfl rfl<|as0 rfl rfl<|.fin ?_
 cases H.out; exact r0 i2 rfl (.cons (res_tmp rfl) .nil)
theorem stringslite_CutPrefix.c (h:stringslite_CutPrefix.f a0 a1=some r):Pt prog 167 [vS a0,vS a1] (tup [vS r.1,vB r.2]):=by
 unfold stringslite_CutPrefix.f at h
 refine pb func167 ntmps167 h fun R0 F H=>?_
 refine WP.seq<|rg 2 0<|as0 rfl rfl<|as0 rfl rfl<|.fin<|WP.seq<|WP.seq<|rg 4 0<|mv0 rfl rfl<|mv0 rfl rfl<|el H fun ta haa H=>cl rfl cal180 rfl (stringslite_HasPrefix.c haa)<|un0 rfl rfl (run_not _)<|.fin<|cd H rfl (fun _ H=>?_) (fun _ H=>?_)
 ·
  refine WP.seq<|rg 3 0<|mv0 rfl rfl<|as0 rfl rfl<|as0 rfl rfl<|.fin ?_
  cases H.out; exact r0 i2 rfl (.cons (res_tmp rfl) (.cons (res_tmp rfl) .nil))
 refine WP.skip<|WP.seq<|rg 6 0<|mv0 rfl rfl<|mv0 rfl rfl<|Dv.lens rfl trivial rfl underlying9<|gr H fun ga H=>Dv.sss rfl trivial rfl underlying9 (bdE_some rfl ga.1) bdE_none ga.2.1 ga.2.2<|as0 rfl rfl<|as0 rfl rfl<|.fin ?_
 cases H.out; exact r0 i2 rfl (.cons (res_tmp rfl) (.cons (res_tmp rfl) .nil))
theorem strings_CutPrefix.c (h:strings_CutPrefix.f a0 a1=some r):Pt prog 152 [vS a0,vS a1] (tup [vS r.1,vB r.2]):=by
 unfold strings_CutPrefix.f at h
 refine pb func152 ntmps152 h fun R0 F H=>?_
 refine WP.seq<|rg 2 0<|as0 rfl rfl<|as0 rfl rfl<|.fin<|WP.seq<|rg 7 0<|mv0 rfl rfl<|mv0 rfl rfl<|el H fun ta haa H=>cl rfl cal167 rfl (stringslite_CutPrefix.c haa)<|ex0 rfl trivial rfl rfl<|ex0 rfl trivial rfl rfl<|as0 rfl rfl<|as0 rfl rfl<|.fin ?_
 cases H.out; exact r0 i2 rfl (.cons (res_tmp rfl) (.cons (res_tmp rfl) .nil))
theorem name_Event.c (h:name_Event.f k a0=some r):Pt prog 121 [vS a0] (vB r):=by
 unfold name_Event.f at h
 refine pb func121 ntmps121 h fun R0 F H=>?_
 refine WP.seq<|rg 1 0<|as0 rfl rfl<|.fin<|WP.seq<|rg 7 0<|mv0 rfl rfl<|el H fun ta haa H=>cl rfl cal152 rfl (strings_CutPrefix.c haa)<|mv0 rfl rfl<|ex0 rfl trivial rfl rfl<|ex0 rfl trivial rfl rfl<|as0 rfl rfl<|as0 rfl rfl<|.fin<|WP.seq<|rg 6 0<|mv0 rfl rfl<|mv0 rfl rfl ?_
 cases cc:ta.2
 ·
  have H:=H.cf cc
  refine sk rfl rfl<|sk rfl rfl<|pf0 rfl rfl rfl<|as0 rfl rfl<|.fin ?_
  cases H.out; exact r0 i2 rfl (.cons (res_tmp rfl) .nil)
 have H:=H.ct cc
 refine mvg rfl rfl rfl<|el H fun tc hac H=>Dv.call rfl (gg rfl) cal98 rfl (name_may.c hac)<|pt0 rfl rfl rfl<|as0 rfl rfl<|.fin ?_
 cases H.out; exact r0 i2 rfl (.cons (res_tmp rfl) .nil)
theorem stringslite_Index.c (h:stringslite_Index.f a0 a1=some r):Pt prog 182 [vS a0,vS a1] (vI r):=by
 unfold stringslite_Index.f at h
 refine pb func182 ntmps182 h fun R0 F H=>?_
 refine WP.seq<|rg 1 0<|as0 rfl rfl<|.fin<|WP.seq<|rg 3 0<|mv0 rfl rfl<|Dv.lens rfl trivial rfl underlying9<|as0 rfl rfl<|.fin<|WP.seq<|WP.block<|WP.seq<|rg 8 0<|mv0 rfl rfl<|bn0 rfl rfl rfl run_eq<|mv0 rfl rfl ?_
 cases cc:((a1.size:Int)==0)
 rotate_left
 ·
  have H:=H.ct cc
  refine sk rfl rfl<|sk rfl rfl<|sk rfl rfl<|pt0 rfl rfl rfl<|as0 rfl rfl<|.fin<|WP.cond rfl (fun _=>?_) nofun
  refine WP.seq<|rg 1 0<|as0 rfl rfl<|.fin ?_
  cases H.out; exact r0 i2 rfl (.cons (res_tmp rfl) .nil)
 have H:=H.cf cc
 refine mvg rfl rfl rfl<|mvg rfl rfl rfl<|bng rfl rfl rfl rfl run_seq<|pf0 rfl rfl rfl<|as0 rfl rfl<|.fin<|cd H rfl (fun _ H=>?_) (fun _ H=>?_)
 ·
  refine WP.seq<|rg 1 0<|as0 rfl rfl<|.fin ?_
  cases H.out; exact r0 i2 rfl (.cons (res_tmp rfl) .nil)
 refine WP.seq<|rg 3 0<|mv0 rfl rfl<|bn0 rfl rfl rfl run_eq<|as0 rfl rfl<|.fin<|cd H rfl (fun _ H=>?_) (fun _ H=>?_)
 ·
  refine WP.seq<|rg 5 0<|mv0 rfl rfl<|mv0 rfl rfl<|gr H fun ga H=>Dv.ixs rfl trivial rfl rfl underlying9 ga.1 ga.2<|el H fun ta haa H=>cl rfl cal168 rfl (stringslite_IndexByte.c haa)<|as0 rfl rfl<|.fin ?_
  cases H.out; exact r0 i2 rfl (.cons (res_tmp rfl) .nil)
 refine WP.seq<|rg 5 0<|mv0 rfl rfl<|mv0 rfl rfl<|Dv.lens rfl trivial rfl underlying9<|bn0 rfl rfl rfl run_ge<|as0 rfl rfl<|.fin<|cd H rfl (fun _ H=>?_) (fun _ H=>?_)
 rotate_left
 ·
  exact (Gets.no H).elim
 refine WP.seq<|rg 1 0<|as0 rfl rfl<|.fin ?_
 cases H.out; exact r0 i2 rfl (.cons (res_tmp rfl) .nil)
theorem stringslite_Cut.c (h:stringslite_Cut.f a0 a1=some r):Pt prog 169 [vS a0,vS a1] (tup [vS r.1,vS r.2.1,vB r.2.2]):=by
 unfold stringslite_Cut.f at h
 refine pb func169 ntmps169 h fun R0 F H=>?_
 refine WP.seq<|rg 3 0<|as0 rfl rfl<|as0 rfl rfl<|as0 rfl rfl<|.fin<|WP.seq<|WP.seq<|rg 4 0<|mv0 rfl rfl<|mv0 rfl rfl<|el H fun ta haa H=>cl rfl cal182 rfl (stringslite_Index.c haa)<|as0 rfl rfl<|.fin<|WP.seq<|rg 2 0<|mv0 rfl rfl<|bn0 rfl rfl rfl run_ge<|.fin<|cd H rfl (fun _ H=>?_) (fun _ H=>?_)
 rotate_left
 ·
  refine WP.skip<|WP.seq<|rg 4 0<|mv0 rfl rfl<|as0 rfl rfl<|as0 rfl rfl<|as0 rfl rfl<|.fin ?_
  cases H.out; exact r0 i2 rfl (.cons (res_tmp rfl) (.cons (res_tmp rfl) (.cons (res_tmp rfl) .nil)))
 refine WP.seq<|dg Tryz.checked.mixed 12 0<|mv0 rfl rfl<|mv0 rfl rfl<|gr H fun ga H=>Dv.sss rfl trivial rfl underlying9 bdE_none (bdE_some rfl ga.1) ga.2.1 ga.2.2<|mv0 rfl rfl<|mv0 rfl rfl<|mv0 rfl rfl<|Dv.lens rfl trivial rfl underlying9<|bn0 rfl rfl rfl run_add<|gr H fun gb H=>Dv.sss rfl trivial rfl underlying9 (bdE_some rfl gb.1) bdE_none gb.2.1 gb.2.2<|as0 rfl rfl<|as0 rfl rfl<|as0 rfl rfl<|.fin ?_
 cases H.out; exact r0 i2 rfl (.cons (res_tmp rfl) (.cons (res_tmp rfl) (.cons (res_tmp rfl) .nil)))
theorem strings_Cut.c (h:strings_Cut.f a0 a1=some r):Pt prog 160 [vS a0,vS a1] (tup [vS r.1,vS r.2.1,vB r.2.2]):=by
 unfold strings_Cut.f at h
 refine pb func160 ntmps160 h fun R0 F H=>?_
 refine WP.seq<|rg 3 0<|as0 rfl rfl<|as0 rfl rfl<|as0 rfl rfl<|.fin<|WP.seq<|rg 9 0<|mv0 rfl rfl<|mv0 rfl rfl<|el H fun ta haa H=>cl rfl cal169 rfl (stringslite_Cut.c haa)<|ex0 rfl trivial rfl rfl<|ex0 rfl trivial rfl rfl<|ex0 rfl trivial rfl rfl<|as0 rfl rfl<|as0 rfl rfl<|as0 rfl rfl<|.fin ?_
 cases H.out; exact r0 i2 rfl (.cons (res_tmp rfl) (.cons (res_tmp rfl) (.cons (res_tmp rfl) .nil)))
theorem name_split.c (h:name_split.f k a0 a1=some r):Pt prog 137 [vS a0,vS a1] (tup [vS r.1,vS r.2.1,vB r.2.2]):=by
 unfold name_split.f at h
 refine pb func137 ntmps137 h fun R0 F H=>?_
 refine WP.seq<|rg 3 0<|as0 rfl rfl<|as0 rfl rfl<|as0 rfl rfl<|.fin<|WP.seq<|rg 8 0<|mv0 rfl rfl<|mv0 rfl rfl<|el H fun ta haa H=>cl rfl cal152 rfl (strings_CutPrefix.c haa)<|mv0 rfl rfl<|ex0 rfl trivial rfl rfl<|ex0 rfl trivial rfl rfl<|as0 rfl rfl<|as0 rfl rfl<|.fin<|WP.seq<|rg 9 0<|mv0 rfl rfl<|el H fun tc hac H=>cl rfl cal160 rfl (strings_Cut.c hac)<|mv0 rfl rfl<|ex0 rfl trivial rfl rfl<|ex0 rfl trivial rfl rfl<|ex0 rfl trivial rfl rfl<|as0 rfl rfl<|as0 rfl rfl<|as0 rfl rfl<|.fin<|WP.seq<|rg 17 0<|mv0 rfl rfl<|mv0 rfl rfl<|mv0 rfl rfl<|mv0 rfl rfl ?_
 cases cc:ta.2
 ·
  have H:=H.cf cc
  refine sk rfl rfl<|pf0 rfl rfl rfl<|mv0 rfl rfl<|sk rfl rfl<|sk rfl rfl<|pf0 rfl rfl rfl<|mv0 rfl rfl<|sk rfl rfl<|sk rfl rfl<|pf0 rfl rfl rfl<|as0 rfl rfl<|as0 rfl rfl<|as0 rfl rfl<|.fin ?_
  cases H.out; exact r0 i2 rfl (.cons (res_tmp rfl) (.cons (res_tmp rfl) (.cons (res_tmp rfl) .nil)))
 have H:=H.ct cc
 refine mvg rfl rfl rfl<|pt0 rfl rfl rfl<|mv0 rfl rfl ?_
 cases ce:tc.2.2
 ·
  have H:=H.cf ce
  refine sk rfl rfl<|sk rfl rfl<|pf0 rfl rfl rfl<|mv0 rfl rfl<|sk rfl rfl<|sk rfl rfl<|pf0 rfl rfl rfl<|as0 rfl rfl<|as0 rfl rfl<|as0 rfl rfl<|.fin ?_
  cases H.out; exact r0 i2 rfl (.cons (res_tmp rfl) (.cons (res_tmp rfl) (.cons (res_tmp rfl) .nil)))
 have H:=H.ct ce
 refine mvg rfl rfl rfl<|el H fun te had H=>Dv.call rfl (gg rfl) cal98 rfl (name_may.c had)<|pt0 rfl rfl rfl<|mv0 rfl rfl ?_
 cases cg:te
 ·
  have H:=H.cf cg
  refine sk rfl rfl<|sk rfl rfl<|pf0 rfl rfl rfl<|as0 rfl rfl<|as0 rfl rfl<|as0 rfl rfl<|.fin ?_
  cases H.out; exact r0 i2 rfl (.cons (res_tmp rfl) (.cons (res_tmp rfl) (.cons (res_tmp rfl) .nil)))
 have H:=H.ct cg
 refine mvg rfl rfl rfl<|el H fun tf hae H=>Dv.call rfl (gg rfl) cal59 rfl (name_Server.c hae)<|pt0 rfl rfl rfl<|as0 rfl rfl<|as0 rfl rfl<|as0 rfl rfl<|.fin ?_
 cases H.out; exact r0 i2 rfl (.cons (res_tmp rfl) (.cons (res_tmp rfl) (.cons (res_tmp rfl) .nil)))
theorem name_Room.c (h:name_Room.f k a0=some r):Pt prog 122 [vS a0] (vB r):=by
 unfold name_Room.f at h
 refine pb func122 ntmps122 h fun R0 F H=>?_
 refine WP.seq<|rg 1 0<|as0 rfl rfl<|.fin<|WP.seq<|rg 9 0<|mv0 rfl rfl<|el H fun ta haa H=>cl rfl cal137 rfl (name_split.c haa)<|mv0 rfl rfl<|ex0 rfl trivial rfl rfl<|ex0 rfl trivial rfl rfl<|ex0 rfl trivial rfl rfl<|as0 rfl rfl<|as0 rfl rfl<|as0 rfl rfl<|.fin<|WP.seq<|rg 2 0<|mv0 rfl rfl<|as0 rfl rfl<|.fin ?_
 cases H.out; exact r0 i2 rfl (.cons (res_tmp rfl) .nil)
theorem name_Thread.c (h:name_Thread.f k a0=some r):Pt prog 134 [vS a0] (vB r):=by
 unfold name_Thread.f at h
 refine pb func134 ntmps134 h fun R0 F H=>?_
 refine WP.seq<|rg 1 0<|as0 rfl rfl<|.fin<|WP.seq<|rg 11 0<|mv0 rfl rfl<|bn0 rfl rfl rfl run_seq<|mv0 rfl rfl ?_
 cases cc:decide (a0=(⟨#[]⟩:ByteArray))
 rotate_left
 ·
  have H:=H.ct cc
  refine sk rfl rfl<|sk rfl rfl<|pt0 rfl rfl rfl<|mv0 rfl rfl<|sk rfl rfl<|sk rfl rfl<|pt0 rfl rfl rfl<|as0 rfl rfl<|.fin ?_
  cases H.out; exact r0 i2 rfl (.cons (res_tmp rfl) .nil)
 have H:=H.cf cc
 refine mvg rfl rfl rfl<|bng rfl rfl rfl rfl run_seq<|pf0 rfl rfl rfl<|mv0 rfl rfl ?_
 cases ce:decide (a0=(⟨#[109,97,105,110]⟩:ByteArray))
 rotate_left
 ·
  have H:=H.ct ce
  refine sk rfl rfl<|sk rfl rfl<|pt0 rfl rfl rfl<|as0 rfl rfl<|.fin ?_
  cases H.out; exact r0 i2 rfl (.cons (res_tmp rfl) .nil)
 have H:=H.cf ce
 refine mvg rfl rfl rfl<|el H fun ta haa H=>Dv.call rfl (gg rfl) cal121 rfl (name_Event.c haa)<|pf0 rfl rfl rfl<|as0 rfl rfl<|.fin ?_
 cases H.out; exact r0 i2 rfl (.cons (res_tmp rfl) .nil)
theorem edu_asks_3.c (h:edu_asks_3.f k a0=some r):Pt prog 133 [agg (Edu.enc a0)] (vB r):=by
 unfold edu_asks_3.f at h
 refine pb func133 ntmps133 h fun R0 F H=>?_
 refine WP.seq<|rg 2 1<|Dv.box rfl trivial rfl cA nofun fun ba=>as0 rfl rfl<|.fin<|WP.seq<|rg 14 0<|fb rfl trivial rfl fa32_1<|ld 0 rfl trivial rfl sc9 rfl rfl<|el H fun ta haa H=>cl rfl cal122 rfl (name_Room.c haa)<|mv0 rfl rfl ?_
 cases cc:ta
 ·
  have H:=H.cf cc
  refine sk rfl rfl<|sk rfl rfl<|sk rfl rfl<|pf0 rfl rfl rfl<|mv0 rfl rfl<|sk rfl rfl<|sk rfl rfl<|sk rfl rfl<|pf0 rfl rfl rfl<|as0 rfl rfl<|.fin ?_
  cases H.out; exact r1 i2 rfl (.cons (res_tmp rfl) .nil)
 have H:=H.ct cc
 refine fb rfl (gg rfl) rfl fa32_3<|ld 0 rfl (gg rfl) rfl sc9 rfl rfl<|el H fun tc hac H=>Dv.call rfl (gg rfl) cal121 rfl (name_Event.c hac)<|pt0 rfl rfl rfl<|mv0 rfl rfl ?_
 cases ce:tc
 ·
  have H:=H.cf ce
  refine sk rfl rfl<|sk rfl rfl<|sk rfl rfl<|pf0 rfl rfl rfl<|as0 rfl rfl<|.fin ?_
  cases H.out; exact r1 i2 rfl (.cons (res_tmp rfl) .nil)
 have H:=H.ct ce
 refine fb rfl (gg rfl) rfl fa32_4<|ld 0 rfl (gg rfl) rfl sc9 rfl rfl<|el H fun te had H=>Dv.call rfl (gg rfl) cal134 rfl (name_Thread.c had)<|pt0 rfl rfl rfl<|as0 rfl rfl<|.fin ?_
 cases H.out; exact r1 i2 rfl (.cons (res_tmp rfl) .nil)
theorem edu_asks_4.c {c0:Int→Int→Int→Option Bool} (h:edu_asks_4.f k a0 c0=some r):Pt prog 135 [agg (Edu.enc a0),rp [fq_int_int_int_bool c0]] (vB r):=by
 unfold edu_asks_4.f at h
 refine pb func135 ntmps135 h fun R0 F H=>?_
 refine WP.seq<|rg 2 1<|Dv.box rfl trivial rfl cA nofun fun ba=>as0 rfl rfl<|.fin<|WP.seq<|rg 15 0<|fb rfl trivial rfl fa32_1<|ld 0 rfl trivial rfl sc9 rfl rfl<|el H fun ta haa H=>cl rfl cal122 rfl (name_Room.c haa)<|mv0 rfl rfl ?_
 cases cc:ta
 ·
  have H:=H.cf cc
  refine sk rfl rfl<|sk rfl rfl<|sk rfl rfl<|sk rfl rfl<|sku rfl rfl<|sku rfl rfl<|sku rfl rfl<|sku rfl rfl<|sk rfl rfl<|pf0 rfl rfl rfl<|as0 rfl rfl<|.fin ?_
  cases H.out; exact r1 i2 rfl (.cons (res_tmp rfl) .nil)
 have H:=H.ct cc
 refine fb rfl (gg rfl) rfl fa32_6<|ld 0 rfl (gg rfl) rfl sc4 rfl rfl<|ung rfl rfl rfl (run_not _)<|mvg rfl rfl rfl ?_
 cases ce:!a0.fOn
 rotate_left
 ·
  have H:=H.ct ce
  refine sk rfl rfl<|sk rfl rfl<|sk rfl rfl<|sk rfl rfl<|ptg rfl rfl rfl rfl<|pt0 rfl rfl rfl<|as0 rfl rfl<|.fin ?_
  cases H.out; exact r1 i2 rfl (.cons (res_tmp rfl) .nil)
 have H:=H.cf ce
 refine ldR rfl (gg rfl) rfl sc71 rfl<|fb rfl (gg rfl) rfl fa32_7<|ld 0 rfl (gg rfl) rfl sc3 rfl rfl<|el H fun tc hac H=>Dv.callq (ret:=vB tc) rfl (gg rfl) rfl rfl ⟨_,_,_,_,hac,rfl,rfl⟩<|pfg rfl rfl rfl rfl<|pt0 rfl rfl rfl<|as0 rfl rfl<|.fin ?_
 cases H.out; exact r1 i2 rfl (.cons (res_tmp rfl) .nil)
theorem edu_asks_5.c {c0:Int→Int→Int→Option Bool} (h:edu_asks_5.f a0 c0=some r):Pt prog 136 [agg (Edu.enc a0),rp [fq_int_int_int_bool c0]] (vB r):=by
 unfold edu_asks_5.f at h
 refine pb func136 ntmps136 h fun R0 F H=>?_
 refine WP.seq<|rg 2 1<|Dv.box rfl trivial rfl cA nofun fun ba=>as0 rfl rfl<|.fin<|WP.seq<|rg 5 0<|ldR rfl trivial rfl sc71 rfl<|fb rfl trivial rfl fa32_8<|ld 0 rfl trivial rfl sc3 rfl rfl<|el H fun ta haa H=>Dv.callq (ret:=vB ta) rfl trivial rfl rfl ⟨_,_,_,_,haa,rfl,rfl⟩<|as0 rfl rfl<|.fin ?_
 cases H.out; exact r1 i2 rfl (.cons (res_tmp rfl) .nil)
theorem edu_asks.c (h:edu_asks.f k=some r):Pt prog 104 [] (sl fK_api_Edu_bool r):=by
 unfold edu_asks.f at h
 refine pb func104 ntmps104 h fun R0 F H=>?_
 refine WP.seq<|rg 1 0<|as0 rfl rfl<|.fin<|WP.seq<|rg 2 3<|al rfl trivial zc71 nofun fun ba=>sx 0 rfl trivial rfl rfl cE sz71 rfl rfl rfl nofun ?_
 refine .fin<|WP.seq<|rg 4 0<|Dv.gh (gh_frzb (E':=[(0,eq (.slice none 0 0)),(1,rp [eq (.func (.func 131) #[] #[])])]) (l':=F) 0 rfl (cve_cons rfl cv_id (cve_cons rfl cv_eq cve_nil)) (all2_app .nil fun _=>cva_id)) (fun _ _=>?_)
 refine Dv.mkf (Q:=fqQ_api_Edu_bool (fun a0_=>edu_asks_4.f k a0_ edu_asks_1.f)) cal135 (by rintro _ _ ⟨a0_,r_,h_,rfl,rfl⟩; exact Pt.weak (edu_asks_4.c h_) (.cons wk_id (.cons (wk_rp (.cons (wk_fn cal131 (by rintro _ _ ⟨a0_,a1_,a2_,r_,h_,rfl,rfl⟩; exact edu_asks_1.c h_)) .nil)) .nil))) rfl trivial rfl rfl<|Dv.mkf (Q:=fqQ_api_Edu_bool (fun a0_=>edu_asks_5.f a0_ edu_asks_1.f)) cal136 (by rintro _ _ ⟨a0_,r_,h_,rfl,rfl⟩; exact Pt.weak (edu_asks_5.c h_) (.cons wk_id (.cons (wk_rp (.cons (wk_fn cal131 (by rintro _ _ ⟨a0_,a1_,a2_,r_,h_,rfl,rfl⟩; exact edu_asks_1.c h_)) .nil)) .nil))) rfl trivial rfl rfl<|Dv.lit fK_api_Edu_bool ([edu_asks_2.f,edu_asks_3.f k,fun a0_=>edu_asks_4.f k a0_ edu_asks_1.f,fun a0_=>edu_asks_5.f a0_ edu_asks_1.f]:List (Edu→Option Bool)) (css:=[[fq_api_Edu_bool edu_asks_2.f],[fq_api_Edu_bool (edu_asks_3.f k)],[fq_api_Edu_bool (fun a0_=>edu_asks_4.f k a0_ edu_asks_1.f)],[fq_api_Edu_bool (fun a0_=>edu_asks_5.f a0_ edu_asks_1.f)]]) rfl trivial underlying177 underlying99 c99 z99 rfl (by decide) (by decide) rfl ⟨(cells_wk (wk_fn cal132 (by rintro _ _ ⟨a0_,r_,h_,rfl,rfl⟩; exact edu_asks_2.c h_)) (one_eq rfl)),⟨(cells_wk (wk_fn cal133 (by rintro _ _ ⟨a0_,r_,h_,rfl,rfl⟩; exact edu_asks_3.c h_)) (one_eq rfl)),⟨(cells_one one_fnq),⟨(cells_one one_fnq),trivial⟩⟩⟩⟩ rfl rfl rfl<|as0 rfl rfl<|.fin ?_
 cases H.out; exact r0 i2 rfl (.cons (res_tmp rfl) .nil)
theorem edu_Local_1.c (h:edu_Local_1.f a0=some r):Pt prog 105 [vI a0] (vB r):=by
 unfold edu_Local_1.f at h
 refine pb func105 ntmps105 h fun R0 F H=>?_
 refine WP.seq<|rg 1 0<|as0 rfl rfl<|.fin<|WP.seq<|rg 7 0<|mv0 rfl rfl<|bn0 rfl rfl rfl run_ge<|mv0 rfl rfl ?_
 cases cc:decide (0≤a0)
 ·
  have H:=H.cf cc
  refine sk rfl rfl<|sk rfl rfl<|pf0 rfl rfl rfl<|as0 rfl rfl<|.fin ?_
  cases H.out; exact r0 i2 rfl (.cons (res_tmp rfl) .nil)
 have H:=H.ct cc
 refine mvg rfl rfl rfl<|bng rfl rfl rfl rfl run_le<|pt0 rfl rfl rfl<|as0 rfl rfl<|.fin ?_
 cases H.out; exact r0 i2 rfl (.cons (res_tmp rfl) .nil)
theorem edu_named.c (h:edu_named.f a0=some r):Pt prog 106 [agg (Edu.enc a0)] (agg (Edu.enc r)):=by
 unfold edu_named.f at h
 refine pb func106 ntmps106 h fun R0 F H=>?_
 refine WP.seq<|rg 2 3<|Dv.box rfl trivial rfl cA nofun fun ba=>al rfl trivial zc32 nofun fun bc=>.fin<|WP.seq<|rg 11 1536<|fb rfl trivial rfl fa32_0<|ld 1 rfl trivial rfl sc3 rfl rfl<|fb rfl trivial rfl fa32_2<|ld 1 rfl trivial rfl sc9 rfl rfl<|fb rfl trivial rfl fa32_9<|ld 1 rfl trivial rfl sc3 rfl rfl<|fb rfl trivial rfl fa32_10<|ld 1 rfl trivial rfl sc3 rfl rfl<|Dv.bld (qs:=[vI a0.fKind,vS (⟨#[]⟩:ByteArray),vS a0.fUser,vS (⟨#[]⟩:ByteArray),vS (⟨#[]⟩:ByteArray),vB false,vB false,vI 0,vI 0,vI a0.fTick,vI a0.fStamp]) (css:=[[vI a0.fKind],[vS a0.fUser],[vI a0.fTick],[vI a0.fStamp]]) rfl trivial underlying32 pl32 z32 rfl ⟨(cells_one (one_eq rfl)),⟨(cells_one (one_eq rfl)),⟨(cells_one (one_eq rfl)),⟨(cells_one (one_eq rfl)),trivial⟩⟩⟩⟩ rfl rfl<|al rfl trivial zc32 nofun fun bd=>sx 0 rfl trivial rfl rfl cA sz32 rfl rfl rfl nofun ?_
 refine .fin<|WP.seq<|WP.seq<|rg 2 0<|fb rfl trivial rfl fa32_0<|ld 2 rfl trivial rfl sc3 rfl rfl<|.fin<|WP.block<|WP.seq<|rg 2 0<|bn0 rfl rfl rfl run_eq<|as0 rfl rfl<|.fin<|cd H rfl (fun _ H=>?_) (fun _ H=>?_)
 ·
  refine dg Tryz.checked.mixed 16 43520<|fb rfl trivial rfl fa32_1<|ld 2 rfl trivial rfl sc9 rfl rfl<|fb rfl trivial rfl fa32_3<|ld 2 rfl trivial rfl sc9 rfl rfl<|fb rfl trivial rfl fa32_4<|ld 2 rfl trivial rfl sc9 rfl rfl<|fb rfl trivial rfl fa32_5<|ld 2 rfl trivial rfl sc4 rfl rfl<|fb rfl trivial rfl fa32_1<|sx 0 rfl trivial rfl rfl cE sz9 rfl rfl rfl (fun _=>(pend_by (by kernel_rfl) (pend_in (fun _=>(mem_at 2 rfl)) (pend_in (fun _=>trivial) (pend_in (fun _=>(mem_at 2 rfl)) (pend_in (fun _=>trivial) (pend_in (fun _=>(mem_at 2 rfl)) (pend_in (fun _=>trivial) (pend_by (by kernel_rfl) (pend_by (by kernel_rfl) pend_nil)))))))))) ?_
  refine fb rfl trivial rfl fa32_3<|sx 0 rfl trivial rfl rfl cE sz9 rfl rfl rfl (fun _=>(pend_by (by kernel_rfl) (pend_by (by kernel_rfl) (pend_in (fun _=>(mem_at 2 rfl)) (pend_in (fun _=>trivial) (pend_in (fun _=>(mem_at 2 rfl)) (pend_in (fun _=>trivial) (pend_by (by kernel_rfl) (pend_by (by kernel_rfl) (pend_by (by kernel_rfl) (pend_by (by kernel_rfl) pend_nil))))))))))) ?_
  refine fb rfl trivial rfl fa32_4<|sx 0 rfl trivial rfl rfl cE sz9 rfl rfl rfl (fun _=>(pend_by (by kernel_rfl) (pend_by (by kernel_rfl) (pend_by (by kernel_rfl) (pend_in (fun _=>(mem_at 2 rfl)) (pend_in (fun _=>trivial) (pend_by (by kernel_rfl) (pend_by (by kernel_rfl) (pend_by (by kernel_rfl) (pend_by (by kernel_rfl) (pend_by (by kernel_rfl) (pend_by (by kernel_rfl) pend_nil)))))))))))) ?_
  refine fb rfl trivial rfl fa32_5<|sx 0 rfl trivial rfl rfl cE sz4 rfl rfl rfl pB ?_
  refine .fin<|WP.seq<|rg 2 2<|lds 0 rfl trivial rfl sg32 rfl rfl<|sx 1 rfl trivial rfl rfl cA sz32 rfl rfl rfl nofun ?_
  refine .fin ?_
  cases H.out; exact r3 i2 rfl (.cons (res_cells rfl underlying32 rfl c32 (mem_at 1 rfl) rfl) .nil)
 refine WP.seq<|rg 2 0<|bn0 rfl rfl rfl run_eq<|as0 rfl rfl<|.fin<|cd H rfl (fun _ H=>?_) (fun _ H=>?_)
 rotate_left
 ·
  refine WP.seq<|rg 2 0<|bn0 rfl rfl rfl run_eq<|as0 rfl rfl<|.fin<|cd H rfl (fun _ H=>?_) (fun _ H=>?_)
  rotate_left
  ·
   refine WP.skip<|WP.seq<|rg 2 2<|lds 0 rfl trivial rfl sg32 rfl rfl<|sx 1 rfl trivial rfl rfl cA sz32 rfl rfl rfl nofun ?_
   refine .fin ?_
   cases H.out; exact r3 i2 rfl (.cons (res_cells rfl underlying32 rfl c32 (mem_at 1 rfl) rfl) .nil)
  refine rg 4 8<|fb rfl trivial rfl fa32_8<|ld 2 rfl trivial rfl sc3 rfl rfl<|fb rfl trivial rfl fa32_8<|sx 0 rfl trivial rfl rfl cE sz3 rfl rfl rfl nofun ?_
  refine .fin<|WP.seq<|rg 2 2<|lds 0 rfl trivial rfl sg32 rfl rfl<|sx 1 rfl trivial rfl rfl cA sz32 rfl rfl rfl nofun ?_
  refine .fin ?_
  cases H.out; exact r3 i2 rfl (.cons (res_cells rfl underlying32 rfl c32 (mem_at 1 rfl) rfl) .nil)
 refine WP.seq<|dg Tryz.checked.mixed 8 160<|fb rfl trivial rfl fa32_1<|ld 2 rfl trivial rfl sc9 rfl rfl<|fb rfl trivial rfl fa32_6<|ld 2 rfl trivial rfl sc4 rfl rfl<|fb rfl trivial rfl fa32_1<|sx 0 rfl trivial rfl rfl cE sz9 rfl rfl rfl (fun _=>(pend_by (by kernel_rfl) (pend_in (fun _=>(mem_at 2 rfl)) (pend_in (fun _=>trivial) (pend_by (by kernel_rfl) (pend_by (by kernel_rfl) pend_nil)))))) ?_
 refine fb rfl trivial rfl fa32_6<|sx 0 rfl trivial rfl rfl cE sz4 rfl rfl rfl pB ?_
 refine .fin<|WP.seq<|rg 2 0<|fb rfl trivial rfl fa32_6<|ld 2 rfl trivial rfl sc4 rfl rfl<|.fin<|cd H rfl (fun _ H=>?_) (fun _ H=>?_)
 rotate_left
 ·
  refine WP.skip<|WP.seq<|rg 2 2<|lds 0 rfl trivial rfl sg32 rfl rfl<|sx 1 rfl trivial rfl rfl cA sz32 rfl rfl rfl nofun ?_
  refine .fin ?_
  cases H.out; exact r3 i2 rfl (.cons (res_cells rfl underlying32 rfl c32 (mem_at 1 rfl) rfl) .nil)
 refine rg 4 8<|fb rfl trivial rfl fa32_7<|ld 2 rfl trivial rfl sc3 rfl rfl<|fb rfl trivial rfl fa32_7<|sx 0 rfl trivial rfl rfl cE sz3 rfl rfl rfl nofun ?_
 refine .fin<|WP.seq<|rg 2 2<|lds 0 rfl trivial rfl sg32 rfl rfl<|sx 1 rfl trivial rfl rfl cA sz32 rfl rfl rfl nofun ?_
 refine .fin ?_
 cases H.out; exact r3 i2 rfl (.cons (res_cells rfl underlying32 rfl c32 (mem_at 1 rfl) rfl) .nil)
theorem name_User.c (h:name_User.f k a0=some r):Pt prog 107 [vS a0] (vB r):=by
 unfold name_User.f at h
 refine pb func107 ntmps107 h fun R0 F H=>?_
 refine WP.seq<|rg 1 0<|as0 rfl rfl<|.fin<|WP.seq<|rg 9 0<|mv0 rfl rfl<|el H fun ta haa H=>cl rfl cal137 rfl (name_split.c haa)<|mv0 rfl rfl<|ex0 rfl trivial rfl rfl<|ex0 rfl trivial rfl rfl<|ex0 rfl trivial rfl rfl<|as0 rfl rfl<|as0 rfl rfl<|as0 rfl rfl<|.fin<|WP.seq<|rg 2 0<|mv0 rfl rfl<|as0 rfl rfl<|.fin ?_
 cases H.out; exact r0 i2 rfl (.cons (res_tmp rfl) .nil)
theorem edu_Local.c (h:edu_Local.f k a0=some r):Pt prog 76 [agg (Edu.enc a0)] (vB r):=by
 unfold edu_Local.f at h
 refine pb func76 ntmps76 h fun R0 F H=>?_
 refine WP.seq<|rg 2 1<|Dv.box rfl trivial rfl cA nofun fun ba=>as0 rfl rfl<|.fin<|WP.seq<|WP.seq<|dg Tryz.checked.mixed 18 0<|fb rfl trivial rfl fa32_0<|ld 0 rfl trivial rfl sc3 rfl rfl<|bn0 rfl rfl rfl run_lt<|mv0 rfl rfl ?_
 cases cc:decide (a0.fKind<0)
 rotate_left
 ·
  have H:=H.ct cc
  refine sk rfl rfl<|sk rfl rfl<|sk rfl rfl<|pt0 rfl rfl rfl<|mv0 rfl rfl<|sk rfl rfl<|sk rfl rfl<|sk rfl rfl<|sk rfl rfl<|sk rfl rfl<|sk rfl rfl<|sk rfl rfl<|sk rfl rfl<|pt0 rfl rfl rfl<|.fin<|WP.cond rfl (fun _=>?_) nofun
  refine WP.seq<|rg 1 0<|as0 rfl rfl<|.fin ?_
  cases H.out; exact r1 i2 rfl (.cons (res_tmp rfl) .nil)
 have H:=H.cf cc
 refine fb rfl (gg rfl) rfl fa32_0<|ld 0 rfl (gg rfl) rfl sc3 rfl rfl<|bng rfl rfl rfl rfl run_gt<|pf0 rfl rfl rfl<|mv0 rfl rfl ?_
 cases ce:decide (3<a0.fKind)
 rotate_left
 ·
  have H:=H.ct ce
  refine sk rfl rfl<|sk rfl rfl<|sk rfl rfl<|sk rfl rfl<|sk rfl rfl<|sk rfl rfl<|sk rfl rfl<|sk rfl rfl<|pt0 rfl rfl rfl<|.fin<|WP.cond rfl (fun _=>?_) nofun
  refine WP.seq<|rg 1 0<|as0 rfl rfl<|.fin ?_
  cases H.out; exact r1 i2 rfl (.cons (res_tmp rfl) .nil)
 have H:=H.cf ce
 refine el H fun ta haa H=>Dv.call rfl (gg rfl) cal104 rfl (edu_asks.c haa)<|fb rfl (gg rfl) rfl fa32_0<|ld 0 rfl (gg rfl) rfl sc3 rfl rfl<|gr H fun ga H=>Dv.ixr rfl (gg rfl) rfl rfl underlying177 underlying99 c99 ga.1 ga.2<|ldR rfl (gg rfl) rfl sc99 rfl<|lds 0 rfl (gg rfl) rfl sg32 rfl rfl<|el H fun tc hac H=>Dv.callq (ret:=vB tc) rfl (gg rfl) rfl rfl ⟨_,_,hac,rfl,rfl⟩<|ung rfl rfl rfl (run_not _)<|pf0 rfl rfl rfl<|.fin<|cd H rfl (fun _ H=>?_) (fun _ H=>?_)
 ·
  refine WP.seq<|rg 1 0<|as0 rfl rfl<|.fin ?_
  cases H.out; exact r1 i2 rfl (.cons (res_tmp rfl) .nil)
 refine WP.skip<|WP.seq<|rg 1 0<|as0 rfl rfl<|.fin<|WP.seq<|dg Tryz.checked.mixed 22 0<|lds 0 rfl trivial rfl sg32 rfl rfl<|lds 0 rfl trivial rfl sg32 rfl rfl<|el H fun te had H=>cl rfl cal106 rfl (edu_named.c had)<|Dv.eqs [.int .i64 a0.fKind,.string a0.fRoom,.string a0.fUser,.string a0.fEvent,.string a0.fThread,.bool a0.fPrivate,.bool a0.fOn,.int .i64 a0.fSpan,.int .i64 a0.fState,.int .i64 a0.fTick,.int .i64 a0.fStamp] [.int .i64 te.fKind,.string te.fRoom,.string te.fUser,.string te.fEvent,.string te.fThread,.bool te.fPrivate,.bool te.fOn,.int .i64 te.fSpan,.int .i64 te.fState,.int .i64 te.fTick,.int .i64 te.fStamp] rfl trivial rfl rfl rfl rfl eg32 (fun _=>equal_of 2 (by decide) (fun _=>eqt32 a0 te))<|mv0 rfl rfl ?_
 cases cg:decide (a0=te)
 ·
  have H:=H.cf cg
  refine sk rfl rfl<|sk rfl rfl<|sk rfl rfl<|pf0 rfl rfl rfl<|mv0 rfl rfl<|sk rfl rfl<|sk rfl rfl<|sk rfl rfl<|sk rfl rfl<|pf0 rfl rfl rfl<|mv0 rfl rfl<|sk rfl rfl<|sk rfl rfl<|sk rfl rfl<|sk rfl rfl<|pf0 rfl rfl rfl<|as0 rfl rfl<|.fin ?_
  cases H.out; exact r1 i2 rfl (.cons (res_tmp rfl) .nil)
 have H:=H.ct cg
 refine fb rfl (gg rfl) rfl fa32_2<|ld 0 rfl (gg rfl) rfl sc9 rfl rfl<|el H fun tf hae H=>Dv.call rfl (gg rfl) cal107 rfl (name_User.c hae)<|pt0 rfl rfl rfl<|mv0 rfl rfl ?_
 cases ci:tf
 ·
  have H:=H.cf ci
  refine sk rfl rfl<|sk rfl rfl<|sk rfl rfl<|sk rfl rfl<|pf0 rfl rfl rfl<|mv0 rfl rfl<|sk rfl rfl<|sk rfl rfl<|sk rfl rfl<|sk rfl rfl<|pf0 rfl rfl rfl<|as0 rfl rfl<|.fin ?_
  cases H.out; exact r1 i2 rfl (.cons (res_tmp rfl) .nil)
 have H:=H.ct ci
 refine mvg rfl rfl rfl<|fb rfl (gg rfl) rfl fa32_9<|ld 0 rfl (gg rfl) rfl sc3 rfl rfl<|el H fun tg haf H=>Dv.callk rfl (gg rfl) rfl cal105 rfl (edu_Local_1.c haf)<|pt0 rfl rfl rfl<|mv0 rfl rfl ?_
 cases cj:tg
 ·
  have H:=H.cf cj
  refine sk rfl rfl<|sk rfl rfl<|sk rfl rfl<|sk rfl rfl<|pf0 rfl rfl rfl<|as0 rfl rfl<|.fin ?_
  cases H.out; exact r1 i2 rfl (.cons (res_tmp rfl) .nil)
 have H:=H.ct cj
 refine mvg rfl rfl rfl<|fb rfl (gg rfl) rfl fa32_10<|ld 0 rfl (gg rfl) rfl sc3 rfl rfl<|el H fun tj hag H=>Dv.callk rfl (gg rfl) rfl cal105 rfl (edu_Local_1.c hag)<|pt0 rfl rfl rfl<|as0 rfl rfl<|.fin ?_
 cases H.out; exact r1 i2 rfl (.cons (res_tmp rfl) .nil)
theorem edu_May.c (h:edu_May.f k a0=some r):Pt prog 42 [agg (Edu.enc a0)] (vB r):=by
 unfold edu_May.f at h
 refine pb func42 ntmps42 h fun R0 F H=>?_
 refine WP.seq<|rg 2 1<|Dv.box rfl trivial rfl cA nofun fun ba=>as0 rfl rfl<|.fin<|WP.seq<|rg 8 0<|lds 0 rfl trivial rfl sg32 rfl rfl<|el H fun ta haa H=>cl rfl cal76 rfl (edu_Local.c haa)<|mv0 rfl rfl ?_
 cases cc:ta
 ·
  have H:=H.cf cc
  refine sk rfl rfl<|sk rfl rfl<|sk rfl rfl<|pf0 rfl rfl rfl<|as0 rfl rfl<|.fin ?_
  cases H.out; exact r1 i2 rfl (.cons (res_tmp rfl) .nil)
 have H:=H.ct cc
 refine fb rfl (gg rfl) rfl fa32_5<|ld 0 rfl (gg rfl) rfl sc4 rfl rfl<|ung rfl rfl rfl (run_not _)<|pt0 rfl rfl rfl<|as0 rfl rfl<|.fin ?_
 cases H.out; exact r1 i2 rfl (.cons (res_tmp rfl) .nil)
theorem edu_Of.c (h:edu_Of.f a0=some r):Pt prog 43 [agg (Edu.enc a0)] (agg (EKey.enc r)):=by
 unfold edu_Of.f at h
 refine pb func43 ntmps43 h fun R0 F H=>?_
 refine WP.seq<|rg 2 3<|Dv.box rfl trivial rfl cA nofun fun ba=>al rfl trivial zc101 nofun fun bc=>.fin<|WP.seq<|rg 12 2048<|fb rfl trivial rfl fa32_0<|ld 1 rfl trivial rfl sc3 rfl rfl<|fb rfl trivial rfl fa32_1<|ld 1 rfl trivial rfl sc9 rfl rfl<|fb rfl trivial rfl fa32_2<|ld 1 rfl trivial rfl sc9 rfl rfl<|fb rfl trivial rfl fa32_4<|ld 1 rfl trivial rfl sc9 rfl rfl<|fb rfl trivial rfl fa32_5<|ld 1 rfl trivial rfl sc4 rfl rfl<|Dv.bld (qs:=[vI a0.fKind,vS a0.fRoom,vS a0.fUser,vS a0.fThread,vB a0.fPrivate]) (css:=[[vI a0.fKind],[vS a0.fRoom],[vS a0.fUser],[vS a0.fThread],[vB a0.fPrivate]]) rfl trivial underlying101 pl101 z101 rfl ⟨(cells_one (one_eq rfl)),⟨(cells_one (one_eq rfl)),⟨(cells_one (one_eq rfl)),⟨(cells_one (one_eq rfl)),⟨(cells_one (one_eq rfl)),trivial⟩⟩⟩⟩⟩ rfl rfl<|sx 0 rfl trivial rfl rfl cA sz101 rfl rfl rfl nofun ?_
 refine .fin ?_
 cases H.out; exact r2 i2 rfl (.cons (res_cells rfl underlying101 rfl c101 (mem_at 0 rfl) rfl) .nil)
theorem cmp_Or_int.c (h:cmp_Or_int.f k a0=some r):Pt prog 108 [sl (intK .i64) a0] (vI r):=by
 unfold cmp_Or_int.f at h
 refine pb func108 ntmps108 h fun R0 F H=>?_
 refine WP.seq<|rg 1 0<|as0 rfl rfl<|.fin<|WP.seq<|rg 1 0<|as0 rfl rfl<|.fin<|WP.seqr H id (fun pa:Int×Bool=>[(0,sl (intK .i64) a0),(2,vI 0),(3,vI 0),(6,sl (intK .i64) a0),(7,vI (a0.length:Int)),(8,vI pa.1),(9,vB pa.2)]) (fun pa:Int×Bool=>F) (fun pa H=>?_) (fun H=>?_)
 ·
  refine WP.seq<|rg 2 0<|mv0 rfl rfl<|as0 rfl rfl<|.fin ?_
  cases H.out; exact r0 i2 rfl (.cons (res_tmp rfl) .nil)
 refine WP.seq<|rg 3 0<|mv0 rfl rfl<|Dv.lenl rfl trivial rfl underlying61<|mv0 rfl rfl<|.fin<|WP.block<|wg (sg 0 [] 0) fun _ _=>?_
 refine lp (fun j_ (pc:Int)=>cmp_Or_int.l0 k a0 j_ pc) 0 H (fun pc=>[(0,sl (intK .i64) a0),(2,vI 0),(3,vI 0),(6,sl (intK .i64) a0),(7,vI (a0.length:Int)),(8,vI pc)]) (fun pc=>F) ?_
 rintro j_ xa H
 rcases j_ with _ | ja
 ·
  exact (Gets.no H).elim
 try dsimp only at H
 rw [cmp_Or_int.l0] at H
 refine WP.seq<|rg 1 0<|bn0 rfl rfl rfl run_lt<|.fin<|WP.seq<|cd H rfl (fun _ H=>?_) (fun _ H=>?_)
 rotate_left
 ·
  refine WP.exit ?_
  have H:=H.out
  exact jn (xa,decide (xa<(a0.length:Int))) H
 refine WP.skip<|WP.seq<|WP.block<|WP.seq<|rg 3 0<|gr H fun ga H=>Dv.ixr rfl trivial rfl rfl underlying61 underlying3 c3 ga.1 ga.2<|ldR rfl trivial rfl sc3 rfl<|as0 rfl rfl<|.fin<|WP.seq<|rg 3 0<|mv0 rfl rfl<|mv0 rfl rfl<|bn0 rfl rfl rfl run_ne<|.fin<|cd H rfl (fun _ H=>?_) (fun _ H=>?_)
 rotate_left
 ·
  exact WP.skip<|rg 2 0<|bn0 rfl rfl rfl run_add<|mv0 rfl rfl<|.fin<|bk ja (w64 (xa+1)) H
 refine WP.seq<|rg 2 0<|mv0 rfl rfl<|as0 rfl rfl<|.fin ?_
 have H:=H.outr
 cases H.out; exact r0 i2 rfl (.cons (res_tmp rfl) .nil)
theorem cmp_isNaN_int.c (h:cmp_isNaN_int.f a0=some r):Pt prog 138 [vI a0] (vB r):=by
 unfold cmp_isNaN_int.f at h
 refine pb func138 ntmps138 h fun R0 F H=>?_
 refine WP.seq<|rg 1 0<|as0 rfl rfl<|.fin<|WP.seq<|rg 4 0<|mv0 rfl rfl<|mv0 rfl rfl<|bn0 rfl rfl rfl run_ne<|as0 rfl rfl<|.fin ?_
 cases H.out; exact r0 i2 rfl (.cons (res_tmp rfl) .nil)
theorem cmp_Compare_int.c (h:cmp_Compare_int.f a0 a1=some r):Pt prog 109 [vI a0,vI a1] (vI r):=by
 unfold cmp_Compare_int.f at h
 refine pb func109 ntmps109 h fun R0 F H=>?_
 refine WP.seq<|rg 1 0<|as0 rfl rfl<|.fin<|WP.seq<|rg 3 0<|mv0 rfl rfl<|el H fun ta haa H=>cl rfl cal138 rfl (cmp_isNaN_int.c haa)<|as0 rfl rfl<|.fin<|WP.seq<|rg 3 0<|mv0 rfl rfl<|el H fun tc hac H=>cl rfl cal138 rfl (cmp_isNaN_int.c hac)<|as0 rfl rfl<|.fin<|WP.seq<|WP.seq<|rg 1 0<|mv0 rfl rfl<|.fin<|cd H rfl (fun _ H=>?_) (fun _ H=>?_)
 ·
  refine WP.seq<|WP.seq<|rg 1 0<|mv0 rfl rfl<|.fin<|cd H rfl (fun _ H=>?_) (fun _ H=>?_)
  ·
   refine WP.seq<|rg 1 0<|as0 rfl rfl<|.fin ?_
   cases H.out; exact r0 i2 rfl (.cons (res_tmp rfl) .nil)
  refine WP.skip<|WP.seq<|rg 1 0<|as0 rfl rfl<|.fin ?_
  cases H.out; exact r0 i2 rfl (.cons (res_tmp rfl) .nil)
 refine WP.skip<|WP.seq<|WP.seq<|rg 1 0<|mv0 rfl rfl<|.fin<|cd H rfl (fun _ H=>?_) (fun _ H=>?_)
 ·
  refine WP.seq<|rg 1 0<|as0 rfl rfl<|.fin ?_
  cases H.out; exact r0 i2 rfl (.cons (res_tmp rfl) .nil)
 refine WP.skip<|WP.seq<|WP.seq<|rg 3 0<|mv0 rfl rfl<|mv0 rfl rfl<|bn0 rfl rfl rfl run_lt<|.fin<|cd H rfl (fun _ H=>?_) (fun _ H=>?_)
 ·
  refine WP.seq<|rg 1 0<|as0 rfl rfl<|.fin ?_
  cases H.out; exact r0 i2 rfl (.cons (res_tmp rfl) .nil)
 refine WP.skip<|WP.seq<|WP.seq<|rg 3 0<|mv0 rfl rfl<|mv0 rfl rfl<|bn0 rfl rfl rfl run_gt<|.fin<|cd H rfl (fun _ H=>?_) (fun _ H=>?_)
 ·
  refine WP.seq<|rg 1 0<|as0 rfl rfl<|.fin ?_
  cases H.out; exact r0 i2 rfl (.cons (res_tmp rfl) .nil)
 refine WP.skip<|WP.seq<|rg 1 0<|as0 rfl rfl<|.fin ?_
 cases H.out; exact r0 i2 rfl (.cons (res_tmp rfl) .nil)
theorem bytes_Compare.c (h:bytes_Compare.f a0 a1=some r):Pt prog 110 [sl (intK .u8) a0,sl (intK .u8) a1] (vI r):=by
 unfold bytes_Compare.f at h
 refine pb func110 ntmps110 h fun R0 F H=>?_
 refine WP.seq<|rg 1 0<|as0 rfl rfl<|.fin<|WP.seq<|rg 4 0<|mv0 rfl rfl<|mv0 rfl rfl<|Dv.cext rfl trivial rfl (xt_cmp func139 (by kernel_rfl) rfl xf139 xg139)<|as0 rfl rfl<|.fin ?_
 cases H.out; exact r0 i2 rfl (.cons (res_tmp rfl) .nil)
theorem lay_Number.c {p0_:OV} (h:lay_Number.f k a0 a1=some r):Tr prog 140 [eq p0_.1,vI a1] [own (intK .u8) p0_.1 a0] (γ:=OV) (fun _=>True) (fun g=>eq g.1) (fun g=>[own (intK .u8) g.1 r]):=by
 unfold lay_Number.f at h
 refine tb func140 ntmps140 h fun R0 F H=>?_
 refine WP.seq<|rg 1 0<|as0 rfl rfl<|.fin<|WP.seq<|rg 3 0<|mv0 rfl rfl<|Dv.maxi rfl trivial rfl rfl<|as0 rfl rfl<|.fin<|WP.seq<|rg 7 32<|mv0 rfl rfl<|mv0 rfl rfl<|Dv.lenw rfl trivial rfl (mem_at 0 rfl) underlying131<|mv0 rfl rfl<|Dv.lenw rfl trivial rfl (mem_at 0 rfl) underlying131<|gr H fun ga H=>Dv.slo (jj:=0) rfl trivial rfl rfl underlying131 underlying5 c5 bdE_none (bdE_some rfl ga.1) (.inr ⟨⟨_,_,rfl,ga.1,rfl⟩,rfl,rfl⟩) ga.2.1 ga.2.2 nofun (fun va=>?_)
 refine as0 rfl rfl<|.fin<|WP.seqn H (fun qa:(Int×Bool×(List Int))×OV=>qa.1) (fun qa:(Int×Bool×(List Int))×OV=>[(0,eq qa.2.1),(1,vI qa.1.1),(4,eq (.slice none 0 0)),(14,vB qa.1.2.1)]) (fun qa:(Int×Bool×(List Int))×OV=>[own (intK .u8) qa.2.1 qa.1.2.2]++F) (fun qa H=>?_) (fun H=>?_)
 ·
  obtain ⟨pa,vb⟩:=qa
  refine WP.seq<|rg 6 16<|mv0 rfl rfl<|mv0 rfl rfl<|Dv.cvi rfl trivial rfl underlying3 underlying5<|Dv.lit (intK .u8) ([IntKind.u8.wrap (pa.1)]:List Int) (css:=[[eq (.int .u8 (IntKind.u8.wrap (pa.1)))]]) rfl trivial underlying131 underlying5 c5 z5 rfl (by decide) (by decide) rfl ⟨(cells_one (one_eq rfl)),trivial⟩ rfl rfl rfl<|gr H fun gb H=>ap (intK .u8) 0 ([IntKind.u8.wrap (pa.1)]:List Int) src_sl underlying131 (.inr ⟨_,underlying131⟩) inf5 gb nofun fun vd=>?_
  refine as0 rfl rfl<|.fin ?_
  obtain rfl:=Gets.out H
  exact rt i2 rfl vd 1 [0] 0 (.cons (res_tmp rfl) .nil)
 refine WP.block<|wg (sg 1 [0] 0) fun _ _=>?_
 refine lp (fun j_ (pc:Int×(List Int)×OV)=>lay_Number.l0 k j_ pc.1 pc.2.1) (max a1 0,(a0.take ((a0.length:Int).toNat)).drop 0,va) H (fun pc=>[(0,eq pc.2.2.1),(1,vI pc.1),(4,eq (.slice none 0 0))]) (fun pc=>[own (intK .u8) pc.2.2.1 pc.2.1]++F) ?_
 rintro j_ ⟨xa,xb,vh⟩ H
 rcases j_ with _ | ja
 ·
  exact (Gets.no H).elim
 try dsimp only at H
 rw [lay_Number.l0] at H
 refine WP.seq<|WP.seq<|rg 2 0<|mv0 rfl rfl<|bn0 rfl rfl rfl run_ge<|.fin<|cd H rfl (fun _ H=>?_) (fun _ H=>?_)
 rotate_left
 ·
  refine WP.exit ?_
  have H:=H.out
  exact jn ((xa,decide (128≤xa),xb),vh) H
 refine WP.skip<|WP.seq<|WP.block<|rg 8 64<|mv0 rfl rfl<|mv0 rfl rfl<|bn0 rfl rfl rfl (run_rem (by decide))<|bn0 rfl rfl rfl run_add<|Dv.cvi rfl trivial rfl underlying3 underlying5<|Dv.lit (intK .u8) ([IntKind.u8.wrap (w64 ((xa.tmod 128)+128))]:List Int) (css:=[[eq (.int .u8 (IntKind.u8.wrap (w64 ((xa.tmod 128)+128))))]]) rfl trivial underlying131 underlying5 c5 z5 rfl (by decide) (by decide) rfl ⟨(cells_one (one_eq rfl)),trivial⟩ rfl rfl rfl<|gr H fun gi H=>ap (intK .u8) 0 ([IntKind.u8.wrap (w64 ((xa.tmod 128)+128))]:List Int) src_sl underlying131 (.inr ⟨_,underlying131⟩) inf5 gi nofun fun vi=>?_
 exact as0 rfl rfl<|.fin<|rg 3 0<|mv0 rfl rfl<|bn0 rfl rfl rfl (run_quo (by decide))<|as0 rfl rfl<|.fin<|bk ja (w64 (xa.tdiv 128),xb++([IntKind.u8.wrap (w64 ((xa.tmod 128)+128))]:List Int),vi) H
theorem lay_Text.c {p0_:OV} (h:lay_Text.f k a0 a1=some r):Tr prog 141 [eq p0_.1,vS a1] [own (intK .u8) p0_.1 a0] (γ:=OV) (fun _=>True) (fun g=>eq g.1) (fun g=>[own (intK .u8) g.1 r]):=by
 unfold lay_Text.f at h
 refine tb func141 ntmps141 h fun R0 F H=>?_
 refine WP.seq<|rg 1 0<|as0 rfl rfl<|.fin<|WP.seq<|rg 7 40<|mv0 rfl rfl<|mv0 rfl rfl<|Dv.lens rfl trivial rfl underlying9<|el H fun ta haa H=>cx 1 [0] cal140 (lay_Number.c haa (p0_:=p0_)) nofun fun ga _=>?_
 refine mv0 rfl rfl<|gr H fun gb H=>ap (intK .u8) 0 (strBs a1) src_str underlying131 (.inl underlying9) inf5 gb nofun fun va=>?_
 refine as0 rfl rfl<|.fin ?_
 obtain rfl:=Gets.out H
 exact rt i2 rfl va 1 [0] 0 (.cons (res_tmp rfl) .nil)
theorem lay_Flag.c {p0_:OV} (h:lay_Flag.f k a0 a1=some r):Tr prog 142 [eq p0_.1,vB a1] [own (intK .u8) p0_.1 a0] (γ:=OV) (fun _=>True) (fun g=>eq g.1) (fun g=>[own (intK .u8) g.1 r]):=by
 unfold lay_Flag.f at h
 refine tb func142 ntmps142 h fun R0 F H=>?_
 refine WP.seq<|rg 1 0<|as0 rfl rfl<|.fin<|WP.seq<|WP.seq<|rg 1 0<|mv0 rfl rfl<|.fin<|cd H rfl (fun _ H=>?_) (fun _ H=>?_)
 ·
  refine WP.seq<|rg 3 2<|mv0 rfl rfl<|el H fun ta haa H=>cx 1 [0] cal140 (lay_Number.c haa (p0_:=p0_)) nofun fun ga _=>?_
  refine as0 rfl rfl<|.fin ?_
  obtain rfl:=Gets.out H
  exact rt i2 rfl ga 1 [0] 0 (.cons (res_tmp rfl) .nil)
 refine WP.skip<|WP.seq<|rg 3 2<|mv0 rfl rfl<|el H fun tc hac H=>cx 1 [0] cal140 (lay_Number.c hac (p0_:=p0_)) nofun fun gb _=>?_
 refine as0 rfl rfl<|.fin ?_
 obtain rfl:=Gets.out H
 exact rt i2 rfl gb 1 [0] 0 (.cons (res_tmp rfl) .nil)
theorem edu_laid.c (h:edu_laid.f k a0=some r):Tr prog 111 [agg (Edu.enc a0)] [] (γ:=OV) (fun _=>True) (fun g=>eq g.1) (fun g=>[own (intK .u8) g.1 r]):=by
 unfold edu_laid.f at h
 refine tb func111 ntmps111 h fun R0 F H=>?_
 refine WP.seq<|rg 2 1<|Dv.box rfl trivial rfl cA nofun fun ba=>as0 rfl rfl<|.fin<|WP.seq<|rg 4 4<|fb rfl trivial rfl fa32_0<|ld 0 rfl trivial rfl sc3 rfl rfl<|vg (st_nil (intK .u8) none) fun _ _=>?_
 refine el H fun ta haa H=>cx 2 [0,1] cal140 (lay_Number.c haa (p0_:=nilV)) nofun fun ga _=>?_
 refine as0 rfl rfl<|.fin<|WP.seqn H (fun qa:(Int×Bool×(List Int))×OV=>qa.1) (fun qa:(Int×Bool×(List Int))×OV=>[(0,agg (Edu.enc a0)),(1,eq (.pointer (some ⟨ba,0,none⟩))),(2,eq (.slice none 0 0)),(3,eq qa.2.1),(19,sl strK ([a0.fRoom,a0.fUser,a0.fEvent,a0.fThread]:List ByteArray)),(20,vI (([a0.fRoom,a0.fUser,a0.fEvent,a0.fThread]:List ByteArray).length:Int)),(21,vI qa.1.1),(22,vB qa.1.2.1)]) (fun qa:(Int×Bool×(List Int))×OV=>[blk ba 32 (Edu.enc a0),own (intK .u8) qa.2.1 qa.1.2.2]++F) (fun qa H=>?_) (fun H=>?_)
 rotate_left
 ·
  refine WP.seq<|rg 11 0<|fb rfl trivial rfl fa32_1<|ld 1 rfl trivial rfl sc9 rfl rfl<|fb rfl trivial rfl fa32_2<|ld 1 rfl trivial rfl sc9 rfl rfl<|fb rfl trivial rfl fa32_3<|ld 1 rfl trivial rfl sc9 rfl rfl<|fb rfl trivial rfl fa32_4<|ld 1 rfl trivial rfl sc9 rfl rfl<|Dv.lit strK ([a0.fRoom,a0.fUser,a0.fEvent,a0.fThread]:List ByteArray) (css:=[[vS a0.fRoom],[vS a0.fUser],[vS a0.fEvent],[vS a0.fThread]]) rfl trivial underlying53 underlying9 c9 z9 rfl (by decide) (by decide) rfl ⟨(cells_one (one_eq rfl)),⟨(cells_one (one_eq rfl)),⟨(cells_one (one_eq rfl)),⟨(cells_one (one_eq rfl)),trivial⟩⟩⟩⟩ rfl rfl rfl<|Dv.lenl rfl trivial rfl underlying53<|mv0 rfl rfl<|.fin<|WP.block<|wg (sg 2 [1,0] 0) fun _ _=>?_
  refine lp (fun j_ (pa:Int×(List Int)×OV)=>edu_laid.l1 k a0 j_ pa.1 pa.2.1) (0,ta,ga) H (fun pa=>[(0,agg (Edu.enc a0)),(1,eq (.pointer (some ⟨ba,0,none⟩))),(2,eq (.slice none 0 0)),(3,eq pa.2.2.1),(19,sl strK ([a0.fRoom,a0.fUser,a0.fEvent,a0.fThread]:List ByteArray)),(20,vI (([a0.fRoom,a0.fUser,a0.fEvent,a0.fThread]:List ByteArray).length:Int)),(21,vI pa.1)]) (fun pa=>[blk ba 32 (Edu.enc a0),own (intK .u8) pa.2.2.1 pa.2.1]++F) ?_
  rintro j_ ⟨xa,xb,va⟩ H
  rcases j_ with _ | ja
  ·
   exact (Gets.no H).elim
  try dsimp only at H
  rw [edu_laid.l1] at H
  refine WP.seq<|rg 1 0<|bn0 rfl rfl rfl run_lt<|.fin<|WP.seq<|cd H rfl (fun _ H=>?_) (fun _ H=>?_)
  rotate_left
  ·
   refine WP.exit ?_
   have H:=H.out
   exact jn ((xa,decide (xa<(([a0.fRoom,a0.fUser,a0.fEvent,a0.fThread]:List ByteArray).length:Int)),xb),va) H
  refine WP.skip<|WP.seq<|WP.block<|WP.seq<|rg 3 0<|gr H fun gb H=>Dv.ixr rfl trivial rfl rfl underlying53 underlying9 c9 gb.1 gb.2<|ldR rfl trivial rfl sc9 rfl<|as0 rfl rfl<|.fin<|rg 4 4<|mv0 rfl rfl<|mv0 rfl rfl<|el H fun tc hac H=>cx 2 [1,0] cal141 (lay_Text.c hac (p0_:=va)) nofun fun gi _=>?_
  refine as0 rfl rfl<|.fin<|rg 2 0<|bn0 rfl rfl rfl run_add<|mv0 rfl rfl<|.fin<|ng (sg 2 [1,0] 0) fun _ _=>?_
  exact bk ja (w64 (xa+1),tc,gi) H
 obtain ⟨pc,vb⟩:=qa
 refine WP.seq<|rg 5 8<|mv0 rfl rfl<|fb rfl trivial rfl fa32_6<|ld 0 rfl trivial rfl sc4 rfl rfl<|el H fun te had H=>cx 2 [1,0] cal142 (lay_Flag.c had (p0_:=vb)) nofun fun gj _=>?_
 refine as0 rfl rfl<|.fin<|WP.seqn H (fun qb:(Int×Bool×(List Int))×OV=>qb.1) (fun qb:(Int×Bool×(List Int))×OV=>[(0,agg (Edu.enc a0)),(1,eq (.pointer (some ⟨ba,0,none⟩))),(2,eq (.slice none 0 0)),(3,eq qb.2.1),(19,sl strK ([a0.fRoom,a0.fUser,a0.fEvent,a0.fThread]:List ByteArray)),(20,vI (([a0.fRoom,a0.fUser,a0.fEvent,a0.fThread]:List ByteArray).length:Int)),(21,vI pc.1),(22,vB pc.2.1),(41,sl (intK .i64) ([a0.fSpan,a0.fState,a0.fTick,a0.fStamp]:List Int)),(42,vI (([a0.fSpan,a0.fState,a0.fTick,a0.fStamp]:List Int).length:Int)),(43,vI qb.1.1),(44,vB qb.1.2.1)]) (fun qb:(Int×Bool×(List Int))×OV=>[blk ba 32 (Edu.enc a0),own (intK .u8) qb.2.1 qb.1.2.2]++F) (fun qb H=>?_) (fun H=>?_)
 ·
  obtain ⟨pd,vd⟩:=qb
  refine WP.seq<|rg 2 0<|mv0 rfl rfl<|as0 rfl rfl<|.fin ?_
  obtain rfl:=Gets.out H
  exact rt i2 rfl vd 2 [0,1] 1 (.cons (res_tmp rfl) .nil)
 refine WP.seq<|rg 11 0<|fb rfl trivial rfl fa32_7<|ld 1 rfl trivial rfl sc3 rfl rfl<|fb rfl trivial rfl fa32_8<|ld 1 rfl trivial rfl sc3 rfl rfl<|fb rfl trivial rfl fa32_9<|ld 1 rfl trivial rfl sc3 rfl rfl<|fb rfl trivial rfl fa32_10<|ld 1 rfl trivial rfl sc3 rfl rfl<|Dv.lit (intK .i64) ([a0.fSpan,a0.fState,a0.fTick,a0.fStamp]:List Int) (css:=[[vI a0.fSpan],[vI a0.fState],[vI a0.fTick],[vI a0.fStamp]]) rfl trivial underlying61 underlying3 c3 z3 rfl (by decide) (by decide) rfl ⟨(cells_one (one_eq rfl)),⟨(cells_one (one_eq rfl)),⟨(cells_one (one_eq rfl)),⟨(cells_one (one_eq rfl)),trivial⟩⟩⟩⟩ rfl rfl rfl<|Dv.lenl rfl trivial rfl underlying61<|mv0 rfl rfl<|.fin<|WP.block<|wg (sg 2 [1,0] 0) fun _ _=>?_
 refine lp (fun j_ (pe:Int×(List Int)×OV)=>edu_laid.l0 k a0 j_ pe.1 pe.2.1) (0,te,gj) H (fun pe=>[(0,agg (Edu.enc a0)),(1,eq (.pointer (some ⟨ba,0,none⟩))),(2,eq (.slice none 0 0)),(3,eq pe.2.2.1),(19,sl strK ([a0.fRoom,a0.fUser,a0.fEvent,a0.fThread]:List ByteArray)),(20,vI (([a0.fRoom,a0.fUser,a0.fEvent,a0.fThread]:List ByteArray).length:Int)),(21,vI pc.1),(22,vB pc.2.1),(41,sl (intK .i64) ([a0.fSpan,a0.fState,a0.fTick,a0.fStamp]:List Int)),(42,vI (([a0.fSpan,a0.fState,a0.fTick,a0.fStamp]:List Int).length:Int)),(43,vI pe.1)]) (fun pe=>[blk ba 32 (Edu.enc a0),own (intK .u8) pe.2.2.1 pe.2.1]++F) ?_
 rintro j_ ⟨xc,xd,vh⟩ H
 rcases j_ with _ | jc
 ·
  exact (Gets.no H).elim
 try dsimp only at H
 rw [edu_laid.l0] at H
 refine WP.seq<|rg 1 0<|bn0 rfl rfl rfl run_lt<|.fin<|WP.seq<|cd H rfl (fun _ H=>?_) (fun _ H=>?_)
 rotate_left
 ·
  refine WP.exit ?_
  have H:=H.out
  exact jn ((xc,decide (xc<(([a0.fSpan,a0.fState,a0.fTick,a0.fStamp]:List Int).length:Int)),xd),vh) H
 refine WP.skip<|WP.seq<|WP.block<|WP.seq<|rg 3 0<|gr H fun gk H=>Dv.ixr rfl trivial rfl rfl underlying61 underlying3 c3 gk.1 gk.2<|ldR rfl trivial rfl sc3 rfl<|as0 rfl rfl<|.fin<|rg 4 4<|mv0 rfl rfl<|mv0 rfl rfl<|el H fun tf hae H=>cx 2 [1,0] cal140 (lay_Number.c hae (p0_:=vh)) nofun fun gl _=>?_
 refine as0 rfl rfl<|.fin<|rg 2 0<|bn0 rfl rfl rfl run_add<|mv0 rfl rfl<|.fin<|ng (sg 2 [1,0] 0) fun _ _=>?_
 exact bk jc (w64 (xc+1),tf,gl) H
theorem edu_Compare.c (h:edu_Compare.f k a0 a1=some r):Pt prog 77 [agg (Edu.enc a0),agg (Edu.enc a1)] (vI r):=by
 unfold edu_Compare.f at h
 refine pb func77 ntmps77 h fun R0 F H=>?_
 refine WP.seq<|rg 3 3<|Dv.box rfl trivial rfl cA nofun fun ba=>Dv.box rfl trivial rfl cA nofun fun bc=>as0 rfl rfl<|.fin<|WP.seq<|dgo Tryz.checked.mixed [0,1,2,3,4,5,7,6,8,9,10,11,12] [6,8]<|fb rfl trivial rfl fa32_10<|ld 1 rfl trivial rfl sc3 rfl rfl<|fb rfl trivial rfl fa32_10<|ld 0 rfl trivial rfl sc3 rfl rfl<|el H fun ta haa H=>cl rfl cal109 rfl (cmp_Compare_int.c haa)<|lds 1 rfl trivial rfl sg32 rfl rfl<|lds 0 rfl trivial rfl sg32 rfl rfl<|el H fun tc hac H=>Dv.callx (pre:=[]) (F:=[blk bc 32 (Edu.enc a1),blk ba 32 (Edu.enc a0)]++F) (fun ga:OV=>[own (intK .u8) ga.1 tc,blk bc 32 (Edu.enc a1),blk ba 32 (Edu.enc a0)]++F) rfl trivial cal111 rfl (edu_laid.c hac) (perm_to (L:=[blk bc 32 (Edu.enc a1),blk ba 32 (Edu.enc a0)]) (F:=F) [0,1] rfl rfl rfl) rfl (fun _=>pendc (pend_in (fun _=>(mem_at 1 rfl)) (pend_by (by kernel_rfl) (pend_by (by kernel_rfl) (pend_by (by kernel_rfl) (pend_by (by kernel_rfl) (pend_by (by kernel_rfl) (pend_by (by kernel_rfl) pend_nil)))))))) (fun ga _=>?_)
 refine el H fun te had H=>cx 3 [0,1,2] cal111 (edu_laid.c had) pC fun gb _=>?_
 refine el H fun tf hae H=>cll (B:=[own (intK .u8) ga.1 tc,own (intK .u8) gb.1 te]) 4 [1,0,2,3] cal110 (Pt.lend _ (bytes_Compare.c hae) (.cons (lt_own (mem_at 0 rfl)) (.cons (lt_own (mem_at 1 rfl)) .nil)) flat_eq) ?_
 refine Dv.lit (intK .i64) ([ta,tf]:List Int) (css:=[[vI ta],[vI tf]]) rfl trivial underlying61 underlying3 c3 z3 rfl (by decide) (by decide) rfl ⟨(cells_one (one_eq rfl)),⟨(cells_one (one_eq rfl)),trivial⟩⟩ rfl rfl rfl<|el H fun tg haf H=>cl rfl cal108 rfl (cmp_Or_int.c haf)<|as0 rfl rfl<|.fin ?_
 cases H.out; exact r4 i2 rfl (.cons (res_tmp rfl) .nil)
theorem edu_Later.c (h:edu_Later.f k a0 a1=some r):Pt prog 44 [agg (Edu.enc a0),agg (Edu.enc a1)] (vB r):=by
 unfold edu_Later.f at h
 refine pb func44 ntmps44 h fun R0 F H=>?_
 refine WP.seq<|rg 3 3<|Dv.box rfl trivial rfl cA nofun fun ba=>Dv.box rfl trivial rfl cA nofun fun bc=>as0 rfl rfl<|.fin<|WP.seq<|dg Tryz.checked.mixed 12 0<|lds 1 rfl trivial rfl sg32 rfl rfl<|el H fun ta haa H=>cl rfl cal43 rfl (edu_Of.c haa)<|lds 0 rfl trivial rfl sg32 rfl rfl<|el H fun tc hac H=>cl rfl cal43 rfl (edu_Of.c hac)<|Dv.eqs [.int .i64 ta.fKind,.string ta.fRoom,.string ta.fUser,.string ta.fThread,.bool ta.fPrivate] [.int .i64 tc.fKind,.string tc.fRoom,.string tc.fUser,.string tc.fThread,.bool tc.fPrivate] rfl trivial rfl rfl rfl rfl eg101 (fun _=>equal_of 2 (by decide) (fun _=>eqt101 ta tc))<|mv0 rfl rfl ?_
 cases cc:decide (ta=tc)
 ·
  have H:=H.cf cc
  refine sk rfl rfl<|sk rfl rfl<|sk rfl rfl<|sk rfl rfl<|pf0 rfl rfl rfl<|as0 rfl rfl<|.fin ?_
  cases H.out; exact r2 i2 rfl (.cons (res_tmp rfl) .nil)
 have H:=H.ct cc
 refine lds 1 rfl (gg rfl) rfl sg32 rfl rfl<|lds 0 rfl (gg rfl) rfl sg32 rfl rfl<|el H fun te had H=>Dv.call rfl (gg rfl) cal77 rfl (edu_Compare.c had)<|bng rfl rfl rfl rfl run_gt<|pt0 rfl rfl rfl<|as0 rfl rfl<|.fin ?_
 cases H.out; exact r2 i2 rfl (.cons (res_tmp rfl) .nil)
theorem slices_IndexFunc_Key_xw.c {X1_:As} {p0_:OV} (h:slices_IndexFunc_Key_xw.f k a0 a1=some r):Tr prog 112 [eq p0_.1,fx_edu_Key_bool X1_ a1] [own EKey.K p0_.1 a0,X1_] (γ:=Unit) (fun _=>True) (fun g=>vI r) (fun g=>[own EKey.K p0_.1 a0,X1_]):=by
 unfold slices_IndexFunc_Key_xw.f at h
 refine tb func112 ntmps112 h fun R0 F H=>?_
 refine WP.seq<|rg 1 0<|as0 rfl rfl<|.fin<|WP.seqr H id (fun pa:Int×Bool=>[(0,eq p0_.1),(1,fx_edu_Key_bool X1_ a1),(4,vI 0),(7,vI (a0.length:Int)),(8,vI pa.1),(9,vB pa.2)]) (fun pa:Int×Bool=>[own EKey.K p0_.1 a0,X1_]++F) (fun pa H=>?_) (fun H=>?_)
 ·
  refine WP.seq<|rg 1 0<|as0 rfl rfl<|.fin ?_
  cases H.out; exact rt i2 rfl () 2 [0,1] 0 (.cons (res_tmp rfl) .nil)
 refine WP.seq<|rg 3 0<|mv0 rfl rfl<|Dv.lenw rfl trivial rfl (mem_at 0 rfl) underlying104<|mv0 rfl rfl<|.fin<|WP.block<|wg (sg 2 [0,1] 0) fun _ _=>?_
 refine lp (fun j_ (pc:Int)=>slices_IndexFunc_Key_xw.l0 k a0 a1 j_ pc) 0 H (fun pc=>[(0,eq p0_.1),(1,fx_edu_Key_bool X1_ a1),(4,vI 0),(7,vI (a0.length:Int)),(8,vI pc)]) (fun pc=>[own EKey.K p0_.1 a0,X1_]++F) ?_
 rintro j_ xa H
 rcases j_ with _ | ja
 ·
  exact (Gets.no H).elim
 try dsimp only at H
 rw [slices_IndexFunc_Key_xw.l0] at H
 refine WP.seq<|rg 1 0<|bn0 rfl rfl rfl run_lt<|.fin<|WP.seq<|cd H rfl (fun _ H=>?_) (fun _ H=>?_)
 rotate_left
 ·
  refine WP.exit ?_
  have H:=H.out
  exact jn (xa,decide (xa<(a0.length:Int))) H
 refine WP.skip<|WP.seq<|WP.block<|WP.seq<|rg 2 0<|mv0 rfl rfl<|as0 rfl rfl<|.fin<|WP.seq<|rg 6 0<|mv0 rfl rfl<|mv0 rfl rfl<|mv0 rfl rfl<|gr H fun ga H=>?_
 have haa:xa.toNat<a0.length:=idx_lt ga
 refine Dv.ixw rfl trivial rfl (mem_at 0 rfl) rfl underlying104 underlying101 c101 ga.1 ga.2<|Dv.ldws (j:=xa.toNat) (f:=0) rfl trivial rfl (mem_at 0 rfl) haa underlying101 rfl c101 (Nat.le_of_ble_eq_true rfl)<|el H fun ta hac H=>Dv.callfx (ret:=vB ta) (X:=X1_) (F:=[own EKey.K p0_.1 a0]++F) rfl trivial rfl rfl ⟨_,_,hac,rfl,rfl⟩ (perm_to (L:=[own EKey.K p0_.1 a0,X1_]) (F:=F) [1,0] rfl rfl rfl)<|.fin<|cd H rfl (fun _ H=>?_) (fun _ H=>?_)
 rotate_left
 ·
  exact WP.skip<|rg 2 0<|bn0 rfl rfl rfl run_add<|mv0 rfl rfl<|.fin<|bk ja (w64 (xa+1)) H
 refine WP.seq<|rg 2 0<|mv0 rfl rfl<|as0 rfl rfl<|.fin ?_
 have H:=H.outr
 cases H.out; exact rt i2 rfl () 2 [0,1] 0 (.cons (res_tmp rfl) .nil)
theorem slices_DeleteFunc_Key_xo.c {X1_:As} {p0_:OV} (h:slices_DeleteFunc_Key_xo.f k a0 a1=some r):Tr prog 78 [eq p0_.1,fx_edu_Key_bool X1_ a1] [own EKey.K p0_.1 a0,X1_] (γ:=OV) (fun _=>True) (fun g=>eq g.1) (fun g=>[X1_,own EKey.K g.1 r]):=by
 unfold slices_DeleteFunc_Key_xo.f at h
 refine tb func78 ntmps78 h fun R0 F H=>?_
 refine WP.seq<|rg 1 0<|as0 rfl rfl<|.fin<|WP.seq<|rg 4 0<|mv0 rfl rfl<|mv0 rfl rfl<|el H fun ta haa H=>cll 2 [0,1] cal112 (slices_IndexFunc_Key_xw.c haa (p0_:=p0_) (X1_:=X1_)) ?_
 refine as0 rfl rfl<|.fin<|WP.seq<|WP.seq<|rg 2 0<|mv0 rfl rfl<|bn0 rfl rfl rfl run_eq<|.fin<|cd H rfl (fun _ H=>?_) (fun _ H=>?_)
 ·
  refine WP.seq<|rg 2 0<|mv0 rfl rfl<|as0 rfl rfl<|.fin ?_
  obtain rfl:=Gets.out H
  exact rt i2 rfl p0_ 2 [1,0] 0 (.cons (res_tmp rfl) .nil)
 refine WP.skip<|WP.seqn H id (fun pa:Int×Int×Bool×(List EKey)=>[(0,eq p0_.1),(1,fx_edu_Key_bool X1_ a1),(4,eq (.slice none 0 0)),(5,vI pa.1),(6,vI pa.2.1),(12,vB (ta==(-1))),(19,vB pa.2.2.1)]) (fun pa:Int×Int×Bool×(List EKey)=>[own EKey.K p0_.1 pa.2.2.2,X1_]++F) (fun pa H=>?_) (fun H=>?_)
 ·
  refine WP.seq<|rg 4 8<|mv0 rfl rfl<|mv0 rfl rfl<|gr H fun ga H=>vg (st_own_form 0 rfl (List.length_pos_iff.1 (Nat.lt_of_le_of_lt (Nat.zero_le _) ga.2))) fun gb hac=>?_
  refine Dv.slkm (o':=gb.2.1+pa.1.toNat*EKey.K.sz) (m':=pa.2.2.2.length-pa.1.toNat) (c':=gb.2.2-pa.1.toNat) rfl trivial ((show opv _ _=some (eq p0_.1) from rfl).trans (congrArg (fun z=>some (eq z)) hac.1)) underlying104 underlying101 c101 (bdE_some rfl ga.1) bdE_none (Nat.le_of_lt ga.2) hac.2 (.inl (Nat.lt_of_lt_of_le ga.2 hac.2)) rfl rfl rfl<|Dv.clrw (jj:=0) (⟨0,(⟨#[]⟩:ByteArray),(⟨#[]⟩:ByteArray),(⟨#[]⟩:ByteArray),false⟩:EKey) rfl trivial rfl underlying104 z101 rfl rfl (fun u hu=>List.all_eq_true.1 (show (Value.cells _).toList.all (fun u=>u.oneCell')=true by kernel_rfl) u hu) hac.1 rfl ga.2 rfl nofun<|.fin<|WP.seq<|rg 4 4<|mv0 rfl rfl<|mv0 rfl rfl<|gr H fun gi H=>Dv.slo (jj:=0) rfl trivial rfl rfl underlying104 underlying101 c101 bdE_none (bdE_some rfl gi.1) (.inl rfl) gi.2.1 gi.2.2 nofun (fun va=>?_)
  refine as0 rfl rfl<|.fin ?_
  obtain rfl:=Gets.out H
  exact rt i2 rfl va 2 [1,0] 0 (.cons (res_tmp rfl) .nil)
 refine WP.seq<|rg 3 0<|mv0 rfl rfl<|bn0 rfl rfl rfl run_add<|as0 rfl rfl<|.fin<|WP.block<|wg (sg 2 [0,1] 0) fun _ _=>?_
 refine lp (fun j_ (pc:Int×Int×(List EKey))=>slices_DeleteFunc_Key_xo.l0 k a1 j_ pc.1 pc.2.1 pc.2.2) (ta,w64 (ta+1),a0) H (fun pc=>[(0,eq p0_.1),(1,fx_edu_Key_bool X1_ a1),(4,eq (.slice none 0 0)),(5,vI pc.1),(6,vI pc.2.1),(12,vB (ta==(-1)))]) (fun pc=>[own EKey.K p0_.1 pc.2.2,X1_]++F) ?_
 rintro j_ ⟨xa,xb,xc⟩ H
 rcases j_ with _ | ja
 ·
  exact (Gets.no H).elim
 try dsimp only at H
 rw [slices_DeleteFunc_Key_xo.l0] at H
 refine WP.seq<|WP.seq<|rg 4 0<|mv0 rfl rfl<|mv0 rfl rfl<|Dv.lenw rfl trivial rfl (mem_at 0 rfl) underlying104<|bn0 rfl rfl rfl run_lt<|.fin<|cd H rfl (fun _ H=>?_) (fun _ H=>?_)
 rotate_left
 ·
  refine WP.exit ?_
  have H:=H.out
  exact jn (xa,xb,decide (xb<(xc.length:Int)),xc) H
 refine WP.skip<|WP.seq<|WP.block<|WP.seq<|rg 6 48<|mv0 rfl rfl<|mv0 rfl rfl<|gr H fun gj H=>?_
 have had:xb.toNat<xc.length:=idx_lt gj
 refine Dv.ixw rfl trivial rfl (mem_at 0 rfl) rfl underlying104 underlying101 c101 gj.1 gj.2<|Dv.ldws (j:=xb.toNat) (f:=0) rfl trivial rfl (mem_at 0 rfl) had underlying101 rfl c101 (Nat.le_of_ble_eq_true rfl)<|al rfl trivial zc101 nofun fun ba=>sx 0 rfl trivial rfl rfl cA sz101 rfl rfl rfl nofun ?_
 refine .fin<|WP.seq<|rg 4 0<|mv0 rfl rfl<|lds 0 rfl trivial rfl sg101 rfl rfl<|el H fun tc hae H=>Dv.callfx (ret:=vB tc) (X:=X1_) (F:=[blk ba 101 (EKey.enc (xc.getD xb.toNat default)),own EKey.K p0_.1 xc]++F) rfl trivial rfl rfl ⟨_,_,hae,rfl,rfl⟩ (perm_to (L:=[blk ba 101 (EKey.enc (xc.getD xb.toNat default)),own EKey.K p0_.1 xc,X1_]) (F:=F) [2,0,1] rfl rfl rfl)<|un0 rfl rfl (run_not _)<|.fin<|cd H rfl (fun _ H=>?_) (fun _ H=>?_)
 rotate_left
 ·
  refine WP.skip<|rg 3 0<|mv0 rfl rfl<|bn0 rfl rfl rfl run_add<|as0 rfl rfl<|.fin<|ng (sg 3 [0,1,2] 1) fun _ _=>?_
  exact bk ja (xa,w64 (xb+1),xc) H
 refine WP.seq<|rg 5 16<|mv0 rfl rfl<|mv0 rfl rfl<|lds 0 rfl trivial rfl sg101 rfl rfl<|gr H fun gk H=>?_
 have haf:xa.toNat<xc.length:=idx_lt gk
 refine Dv.ixw rfl trivial rfl (mem_at 1 rfl) rfl underlying104 underlying101 c101 gk.1 gk.2<|Dv.stw (j:=xa.toNat) (f:=0) (jj:=1) (xc.getD xb.toNat default) rfl trivial rfl rfl (cells_agg (EKey.K.one _)) underlying101 c101 rfl rfl haf (Nat.le_of_ble_eq_true rfl) rfl nofun<|.fin<|rg 3 0<|mv0 rfl rfl<|bn0 rfl rfl rfl run_add<|as0 rfl rfl<|.fin<|rg 3 0<|mv0 rfl rfl<|bn0 rfl rfl rfl run_add<|as0 rfl rfl<|.fin<|ng (sg 3 [0,1,2] 1) fun _ _=>?_
 exact bk ja (w64 (xa+1),w64 (xb+1),xc.set xa.toNat (xc.getD xb.toNat default)) H
theorem queue_Queue_drop_1.c {c0:EKey} (h:queue_Queue_drop_1.f a0 c0=some r):Pt prog 79 [agg (EKey.enc a0),rp [vI c0.fKind,vS c0.fRoom,vS c0.fUser,vS c0.fThread,vB c0.fPrivate]] (vB r):=by
 unfold queue_Queue_drop_1.f at h
 refine pb func79 ntmps79 h fun R0 F H=>?_
 refine WP.seq<|rg 2 1<|Dv.box rfl trivial rfl cA nofun fun ba=>as0 rfl rfl<|.fin<|WP.seq<|rg 4 0<|lds 0 rfl trivial rfl sg101 rfl rfl<|ldsR rfl trivial rfl sg101 rfl<|Dv.eqs [.int .i64 a0.fKind,.string a0.fRoom,.string a0.fUser,.string a0.fThread,.bool a0.fPrivate] [.int .i64 c0.fKind,.string c0.fRoom,.string c0.fUser,.string c0.fThread,.bool c0.fPrivate] rfl trivial rfl rfl rfl rfl eg101 (fun _=>equal_of 2 (by decide) (fun _=>eqt101 a0 c0))<|as0 rfl rfl<|.fin ?_
 cases H.out; exact r1 i2 rfl (.cons (res_tmp rfl) .nil)
theorem queue_Queue_drop.c {p0_:OV} (h:queue_Queue_drop.f k a0 a1=some r):Tr prog 45 [eq p0_.1,agg (EKey.enc a1)] [SQue.O p0_ a0] (γ:=Unit) (fun _=>True) (fun g=>tup []) (fun g=>[SQue.O p0_ r]):=by
 unfold queue_Queue_drop.f at h
 refine tb func45 ntmps45 h fun R0 F H=>?_
 refine WP.seq<|rg 1 1<|Dv.box rfl trivial rfl cA nofun fun ba=>.fin<|WP.seq<|wg (SQue.opn 1 rfl) fun ga haa=>?_
 refine dg Tryz.checked.mixed 6 32<|mv0 rfl rfl<|Dv.nilpp haa rfl trivial rfl<|fp haa rfl trivial rfl fa107_2<|ld 0 rfl trivial rfl sc105 rfl rfl<|lds 3 rfl trivial rfl sg101 rfl rfl<|Dv.mdlq (jj:=2) rfl trivial rfl rfl rfl (EKey.kq a1) underlying105 kok101 (fun _=>pend_bits (by kernel_rfl))<|.fin<|rg 10 576<|mv0 rfl rfl<|mv0 rfl rfl<|Dv.nilpp haa rfl trivial rfl<|fp haa rfl trivial rfl fa107_1<|ld 0 rfl trivial rfl sc104 rfl rfl<|Dv.gh (gh_frzb (E':=[(0,eq p0_.1),(1,agg (EKey.enc a1)),(3,rp [vI a1.fKind,vS a1.fRoom,vS a1.fUser,vS a1.fThread,vB a1.fPrivate]),(9,eq p0_.1),(13,eq ga.2.1.1)]) (l':=[blk ga.1 107 [vI a0.fmost,eq ga.2.1.1,eq ga.2.2.1,vI a0.flost],own EKey.K ga.2.1.1 a0.fkeys,mp EKey.kv (fun x:Edu=>agg (Edu.enc x)) ga.2.2.1 (mdel a0.fat a1)]++F) 3 rfl (cve_cons rfl cv_id (cve_cons rfl cv_id (cve_cons rfl cv_eq (cve_cons rfl cv_id (cve_cons rfl cv_id cve_nil))))) (all2_app (.cons cva_id (.cons cva_id (.cons cva_id .nil))) fun _=>cva_id)) (fun _ _=>?_)
 refine Dv.mkx (Q:=fqQ_edu_Key_bool (fun a0_=>queue_Queue_drop_1.f a0_ a1)) (L:=[]) cal79 (by rintro _ _ ⟨a0_,r_,h_,rfl,rfl⟩; exact (queue_Queue_drop_1.c h_).tr) rfl trivial rfl rfl<|el H fun ta hac H=>cx 3 [1,0,2] cal78 (Tr.unpko (A:=[own EKey.K ga.2.1.1 a0.fkeys]) (L:=[]) (B:=fun gb:OV=>[own EKey.K gb.1 ta]) (slices_DeleteFunc_Key_xo.c hac (p0_:=ga.2.1) (X1_:=(pk [])))) nofun fun gb _=>?_
 refine Dv.nilpp haa rfl trivial rfl<|fp haa rfl trivial rfl fa107_1<|sx 1 rfl trivial rfl rfl (cells_one one_ov) sz104 rfl rfl rfl nofun ?_
 refine .fin<|ng (SQue.shut (p:=p0_) (m:=(⟨a0.fmost,ta,mdel a0.fat a1,a0.flost⟩:SQue)) (ga.1,gb,ga.2.2) haa (pm 3 [1,0,2])) fun _ _=>?_
 obtain rfl:=Gets.out H
 exact re rfl () 1 [0] 0 .nil
theorem queue_Queue_Put.c {p0_:OV} (h:queue_Queue_Put.f k a0 a1=some r):Tr prog 13 [eq p0_.1,agg (Edu.enc a1)] [SQue.O p0_ a0] (γ:=Unit) (fun _=>True) (fun g=>tup [agg (Edu.enc r.1),vB r.2.1,vI r.2.2.1]) (fun g=>[SQue.O p0_ r.2.2.2]):=by
 unfold queue_Queue_Put.f at h
 refine tb func13 ntmps13 h fun R0 F H=>?_
 refine WP.seq<|rg 4 3<|Dv.box rfl trivial rfl cA nofun fun ba=>al rfl trivial zc32 nofun fun bc=>as0 rfl rfl<|as0 rfl rfl<|.fin<|WP.seq<|WP.seq<|rg 3 0<|lds 1 rfl trivial rfl sg32 rfl rfl<|el H fun ta haa H=>cl rfl cal42 rfl (edu_May.c haa)<|un0 rfl rfl (run_not _)<|.fin<|cd H rfl (fun _ H=>?_) (fun _ H=>?_)
 ·
  refine WP.seq<|rg 4 2<|Dv.bld (qs:=[vI 0,vS (⟨#[]⟩:ByteArray),vS (⟨#[]⟩:ByteArray),vS (⟨#[]⟩:ByteArray),vS (⟨#[]⟩:ByteArray),vB false,vB false,vI 0,vI 0,vI 0,vI 0]) (css:=[]) rfl trivial underlying32 pl32 z32 rfl trivial rfl rfl<|sx 0 rfl trivial rfl rfl cA sz32 rfl rfl rfl nofun ?_
  refine as0 rfl rfl<|as0 rfl rfl<|.fin ?_
  cases H.out; exact rt i2 rfl () 3 [0,1,2] 2 (.cons (res_cells rfl underlying32 rfl c32 (mem_at 0 rfl) rfl) (.cons (res_tmp rfl) (.cons (res_tmp rfl) .nil)))
 refine WP.skip<|WP.seq<|rg 4 12<|lds 1 rfl trivial rfl sg32 rfl rfl<|el H fun tc hac H=>cl rfl cal43 rfl (edu_Of.c hac)<|al rfl trivial zc101 nofun fun bd=>sx 0 rfl trivial rfl rfl cA sz101 rfl rfl rfl nofun ?_
 refine .fin<|WP.seq<|wg (SQue.opn 3 rfl) fun ga had=>?_
 refine dg Tryz.checked.mixed 12 1536<|mv0 rfl rfl<|Dv.nilpp had rfl trivial rfl<|fp had rfl trivial rfl fa107_2<|ld 0 rfl trivial rfl sc105 rfl rfl<|lds 3 rfl trivial rfl sg101 rfl rfl<|Dv.mlkq (⟨0,(⟨#[]⟩:ByteArray),(⟨#[]⟩:ByteArray),(⟨#[]⟩:ByteArray),(⟨#[]⟩:ByteArray),false,false,0,0,0,0⟩:Edu) rfl trivial rfl (mem_at 2 rfl) rfl (EKey.kq tc) underlying105 kok101 z32 (fun _=>⟨_,rfl,Cs.eqz rfl⟩)<|mv0 rfl rfl<|ex0 rfl trivial rfl rfl<|ex0 rfl trivial rfl rfl<|al rfl trivial zc32 (fun _=>(pend_in (fun _=>trivial) (pend_in (fun _=>trivial) (pend_in (fun _=>trivial) (pend_in (fun _=>(mem_at 3 rfl)) (pend_in (fun _=>(mem_at 4 rfl)) (pend_in (fun _=>(mem_at 1 rfl)) (pend_in (fun _=>trivial) (pend_in (fun _=>trivial) (pend_in (fun _=>trivial) pend_nil)))))))))) fun be=>sx 0 rfl trivial rfl rfl cA sz32 rfl rfl rfl (fun _=>(pend_in (fun _=>trivial) (pend_by (by kernel_rfl) (pend_by (by kernel_rfl) (pend_by (by kernel_rfl) (pend_by (by kernel_rfl) (pend_by (by kernel_rfl) (pend_by (by kernel_rfl) (pend_by (by kernel_rfl) (pend_by (by kernel_rfl) pend_nil)))))))))) ?_
 refine as0 rfl rfl<|.fin<|WP.seq<|WP.seq<|rg 7 0<|mv0 rfl rfl<|mv0 rfl rfl ?_
 rcases bem ((mget a0.fat tc).isSome) with cc | cc
 ·
  have H:=H.cf cc
  refine Dv.gh (gh_sh 25 cc rfl) (fun _ _=>?_)
  refine Dv.gh (gh_sh 9 cc rfl) (fun _ _=>?_)
  refine Dv.gh (gh_sh 26 cc rfl) (fun _ _=>?_)
  refine Dv.gh (gh_sh 27 cc rfl) (fun _ _=>?_)
  refine sk rfl rfl<|sk rfl rfl<|sk rfl rfl<|sk rfl rfl<|pf0 rfl rfl rfl<|.fin<|WP.cond rfl nofun (fun _=>?_)
  refine WP.skip<|WP.seq<|rg 3 4<|mv0 rfl rfl<|lds 4 rfl trivial rfl sg101 rfl rfl<|vg (SQue.shut (p:=p0_) (m:=a0) (ga.1,ga.2.1,ga.2.2) had (pm 7 [1,2,3,0,4,5,6])) fun _ _=>?_
  refine el H fun te hae H=>cx 5 [0,1,2,3,4] cal45 (queue_Queue_drop.c hae (p0_:=p0_)) nofun fun _ _=>?_
  refine .fin<|WP.seq<|wg (SQue.opn 0 rfl) fun gb haf=>?_
  refine dg Tryz.checked.mixed 11 1152<|mv0 rfl rfl<|mv0 rfl rfl<|Dv.nilpp haf rfl trivial rfl<|fp haf rfl trivial rfl fa107_1<|ld 0 rfl trivial rfl sc104 rfl rfl<|lds 4 rfl trivial rfl sg101 rfl rfl<|Dv.lit EKey.K ([tc]:List EKey) (css:=[EKey.enc tc]) rfl trivial underlying104 underlying101 c101 z101 rfl (by decide) (by decide) rfl ⟨(cells_agg (EKey.K.one _)),trivial⟩ rfl rfl rfl<|gr H fun gi H=>Dv.appx (Kd:=EKey.K) (jj:=1) (ys:=([tc]:List EKey)) (fun va:OV=>[blk gb.1 107 [vI te.fmost,eq gb.2.1.1,eq gb.2.2.1,vI te.flost],own EKey.K va.1 (te.fkeys++([tc]:List EKey)),mp EKey.kv (fun x:Edu=>agg (Edu.enc x)) gb.2.2.1 te.fat,blk be 32 (Edu.enc ((mget a0.fat tc).getD (⟨0,(⟨#[]⟩:ByteArray),(⟨#[]⟩:ByteArray),(⟨#[]⟩:ByteArray),(⟨#[]⟩:ByteArray),false,false,0,0,0,0⟩:Edu))),blk bd 101 (EKey.enc tc),blk bc 32 [vI 0,vS (⟨#[]⟩:ByteArray),vS (⟨#[]⟩:ByteArray),vS (⟨#[]⟩:ByteArray),vS (⟨#[]⟩:ByteArray),vB false,vB false,vI 0,vI 0,vI 0,vI 0],blk ba 32 (Edu.enc a1)]++F) rfl trivial rfl rfl rfl src_sl underlying104 (.inr ⟨_,underlying104⟩) inf101 rfl (by decide) gi rfl (fun _=>(pend_by (by kernel_rfl) (pend_by (by kernel_rfl) (pend_by (by kernel_rfl) (pend_by (by kernel_rfl) (pend_by (by kernel_rfl) (pend_by (by kernel_rfl) (pend_in (fun _=>trivial) pend_nil)))))))) (fun va=>?_)
  refine Dv.nilpp haf rfl trivial rfl<|fp haf rfl trivial rfl fa107_1<|sx 0 rfl trivial rfl rfl (cells_one one_ov) sz104 rfl rfl rfl pB ?_
  refine .fin<|WP.seq<|dg Tryz.checked.mixed 7 64<|mv0 rfl rfl<|Dv.nilpp haf rfl trivial rfl<|fp haf rfl trivial rfl fa107_2<|ld 0 rfl trivial rfl sc105 rfl rfl<|lds 4 rfl trivial rfl sg101 rfl rfl<|lds 6 rfl trivial rfl sg32 rfl rfl<|Dv.mupq (jj:=2) a1 rfl trivial rfl rfl rfl (EKey.kq tc) rfl underlying105 kok101 (fun _=>pend_bits (by kernel_rfl))<|.fin<|WP.seq<|WP.seq<|dg Tryz.checked.mixed 10 0<|mv0 rfl rfl<|Dv.nilpp haf rfl trivial rfl<|fp haf rfl trivial rfl fa107_1<|ld 0 rfl trivial rfl sc104 rfl rfl<|Dv.lenw rfl trivial rfl (mem_at 1 rfl) underlying104<|mv0 rfl rfl<|Dv.nilpp haf rfl trivial rfl<|fp haf rfl trivial rfl fa107_0<|ld 0 rfl trivial rfl sc3 rfl rfl<|bn0 rfl rfl rfl run_le<|.fin<|cd H rfl (fun _ H=>?_) (fun _ H=>?_)
  ·
   refine WP.seq<|rg 4 2<|Dv.bld (qs:=[vI 0,vS (⟨#[]⟩:ByteArray),vS (⟨#[]⟩:ByteArray),vS (⟨#[]⟩:ByteArray),vS (⟨#[]⟩:ByteArray),vB false,vB false,vI 0,vI 0,vI 0,vI 0]) (css:=[]) rfl trivial underlying32 pl32 z32 rfl trivial rfl rfl<|sx 5 rfl trivial rfl rfl cA sz32 rfl rfl rfl nofun ?_
   refine as0 rfl rfl<|as0 rfl rfl<|.fin<|wg (SQue.shut (p:=p0_) (m:=(⟨te.fmost,te.fkeys++([tc]:List EKey),mput te.fat tc a1,te.flost⟩:SQue)) (gb.1,va,gb.2.2) haf (pm 7 [0,1,2,3,4,5,6])) fun _ _=>?_
   cases H.out; exact rt i2 rfl () 5 [1,2,3,4,0] 4 (.cons (res_cells rfl underlying32 rfl c32 (mem_at 3 rfl) rfl) (.cons (res_tmp rfl) (.cons (res_tmp rfl) .nil)))
  refine WP.skip<|WP.seq<|dg Tryz.checked.mixed 13 6144<|mv0 rfl rfl<|Dv.nilpp haf rfl trivial rfl<|fp haf rfl trivial rfl fa107_2<|ld 0 rfl trivial rfl sc105 rfl rfl<|mv0 rfl rfl<|Dv.nilpp haf rfl trivial rfl<|fp haf rfl trivial rfl fa107_1<|ld 0 rfl trivial rfl sc104 rfl rfl<|gr H fun gj H=>?_
  have hag:(0:Int).toNat<(te.fkeys++([tc]:List EKey)).length:=idx_lt gj
  refine Dv.ixw rfl trivial rfl (mem_at 1 rfl) rfl underlying104 underlying101 c101 gj.1 gj.2<|Dv.ldws (j:=((0:Int).toNat)) (f:=0) rfl trivial rfl (mem_at 1 rfl) hag underlying101 rfl c101 (Nat.le_of_ble_eq_true rfl)<|Dv.mlvq (⟨0,(⟨#[]⟩:ByteArray),(⟨#[]⟩:ByteArray),(⟨#[]⟩:ByteArray),(⟨#[]⟩:ByteArray),false,false,0,0,0,0⟩:Edu) rfl trivial rfl (mem_at 2 rfl) rfl (EKey.kq ((te.fkeys++([tc]:List EKey)).getD ((0:Int).toNat) default)) underlying105 kok101 z32 (fun _=>⟨_,rfl,Cs.eqz rfl⟩)<|al rfl trivial zc32 (fun _=>(pend_in (fun _=>(mem_at 3 rfl)) (pend_in (fun _=>(mem_at 2 rfl)) (pend_in (fun _=>(mem_at 2 rfl)) (pend_in (fun _=>(mem_at 1 rfl)) (pend_in (fun _=>trivial) (pend_in (fun _=>trivial) (pend_in (fun _=>trivial) (pend_in (fun _=>(mem_at 1 rfl)) (pend_in (fun _=>trivial) (pend_in (fun _=>trivial) (pend_in (fun _=>trivial) pend_nil)))))))))))) fun bg=>sx 0 rfl trivial rfl rfl cA sz32 rfl rfl rfl pB ?_
  refine .fin<|WP.seq<|rg 8 128<|mv0 rfl rfl<|mv0 rfl rfl<|Dv.nilpp haf rfl trivial rfl<|fp haf rfl trivial rfl fa107_1<|ld 1 rfl trivial rfl sc104 rfl rfl<|gr H fun gk H=>?_
  have hah:(0:Int).toNat<(te.fkeys++([tc]:List EKey)).length:=idx_lt gk
  refine Dv.ixw rfl trivial rfl (mem_at 2 rfl) rfl underlying104 underlying101 c101 gk.1 gk.2<|Dv.ldws (j:=((0:Int).toNat)) (f:=0) rfl trivial rfl (mem_at 2 rfl) hah underlying101 rfl c101 (Nat.le_of_ble_eq_true rfl)<|vg (SQue.shut (p:=p0_) (m:=(⟨te.fmost,te.fkeys++([tc]:List EKey),mput te.fat tc a1,te.flost⟩:SQue)) (gb.1,va,gb.2.2) haf (pm 8 [1,2,3,0,4,5,6,7])) fun _ _=>?_
  refine el H fun tf hai H=>cx 6 [0,1,2,3,4,5] cal45 (queue_Queue_drop.c hai (p0_:=p0_)) nofun fun _ _=>?_
  refine .fin<|WP.seq<|rg 8 128<|mv0 rfl rfl<|Dv.nilA SQue.nn rfl trivial rfl (mem_at 0 rfl)<|vg (SQue.opn 0 rfl) fun gl haj=>?_
  refine fp haj rfl trivial rfl fa107_3<|ld 0 rfl trivial rfl sc3 rfl rfl<|bn0 rfl rfl rfl run_add<|Dv.nilpp haj rfl trivial rfl<|fp haj rfl trivial rfl fa107_3<|sx 0 rfl trivial rfl rfl cE sz3 rfl rfl rfl nofun ?_
  refine .fin<|WP.seq<|rg 4 2<|lds 3 rfl trivial rfl sg32 rfl rfl<|sx 6 rfl trivial rfl rfl cA sz32 rfl rfl rfl nofun ?_
  refine as0 rfl rfl<|as0 rfl rfl<|.fin<|wg (SQue.shut (p:=p0_) (m:=(⟨tf.fmost,tf.fkeys,tf.fat,w64 (tf.flost+1)⟩:SQue)) (gl.1,gl.2.1,gl.2.2) haj (pm 8 [0,1,2,3,4,5,6,7])) fun _ _=>?_
  cases H.out; exact rt i2 rfl () 6 [1,2,3,4,5,0] 5 (.cons (res_cells rfl underlying32 rfl c32 (mem_at 4 rfl) rfl) (.cons (res_tmp rfl) (.cons (res_tmp rfl) .nil)))
 have H:=H.ct cc
 refine Dv.gh (gh_sh 25 cc rfl) (fun _ _=>?_)
 refine Dv.gh (gh_sh 9 cc rfl) (fun _ _=>?_)
 refine Dv.gh (gh_sh 26 cc rfl) (fun _ _=>?_)
 refine Dv.gh (gh_sh 27 cc rfl) (fun _ _=>?_)
 refine lds 6 rfl (gg rfl) rfl sg32 rfl rfl<|lds 0 rfl (gg rfl) rfl sg32 rfl rfl<|el H fun tg hak H=>Dv.call rfl (gg rfl) cal44 rfl (edu_Later.c hak)<|ung rfl rfl rfl (run_not _)<|pt0 rfl rfl rfl<|.fin<|cd H rfl (fun _ H=>?_) (fun _ H=>?_)
 ·
  refine WP.seq<|rg 4 2<|Dv.bld (qs:=[vI 0,vS (⟨#[]⟩:ByteArray),vS (⟨#[]⟩:ByteArray),vS (⟨#[]⟩:ByteArray),vS (⟨#[]⟩:ByteArray),vB false,vB false,vI 0,vI 0,vI 0,vI 0]) (css:=[]) rfl trivial underlying32 pl32 z32 rfl trivial rfl rfl<|sx 5 rfl trivial rfl rfl cA sz32 rfl rfl rfl nofun ?_
  refine as0 rfl rfl<|as0 rfl rfl<|.fin<|wg (SQue.shut (p:=p0_) (m:=a0) (ga.1,ga.2.1,ga.2.2) had (pm 7 [1,2,3,0,4,5,6])) fun _ _=>?_
  cases H.out; exact rt i2 rfl () 5 [1,2,3,4,0] 4 (.cons (res_cells rfl underlying32 rfl c32 (mem_at 3 rfl) rfl) (.cons (res_tmp rfl) (.cons (res_tmp rfl) .nil)))
 refine WP.skip<|WP.seq<|rg 3 4<|mv0 rfl rfl<|lds 4 rfl trivial rfl sg101 rfl rfl<|vg (SQue.shut (p:=p0_) (m:=a0) (ga.1,ga.2.1,ga.2.2) had (pm 7 [1,2,3,0,4,5,6])) fun _ _=>?_
 refine el H fun tj ham H=>cx 5 [0,1,2,3,4] cal45 (queue_Queue_drop.c ham (p0_:=p0_)) nofun fun _ _=>?_
 refine .fin<|WP.seq<|wg (SQue.opn 0 rfl) fun gn han=>?_
 refine dg Tryz.checked.mixed 11 1152<|mv0 rfl rfl<|mv0 rfl rfl<|Dv.nilpp han rfl trivial rfl<|fp han rfl trivial rfl fa107_1<|ld 0 rfl trivial rfl sc104 rfl rfl<|lds 4 rfl trivial rfl sg101 rfl rfl<|Dv.lit EKey.K ([tc]:List EKey) (css:=[EKey.enc tc]) rfl trivial underlying104 underlying101 c101 z101 rfl (by decide) (by decide) rfl ⟨(cells_agg (EKey.K.one _)),trivial⟩ rfl rfl rfl<|gr H fun go H=>Dv.appx (Kd:=EKey.K) (jj:=1) (ys:=([tc]:List EKey)) (fun vb:OV=>[blk gn.1 107 [vI tj.fmost,eq gn.2.1.1,eq gn.2.2.1,vI tj.flost],own EKey.K vb.1 (tj.fkeys++([tc]:List EKey)),mp EKey.kv (fun x:Edu=>agg (Edu.enc x)) gn.2.2.1 tj.fat,blk be 32 (Edu.enc ((mget a0.fat tc).getD (⟨0,(⟨#[]⟩:ByteArray),(⟨#[]⟩:ByteArray),(⟨#[]⟩:ByteArray),(⟨#[]⟩:ByteArray),false,false,0,0,0,0⟩:Edu))),blk bd 101 (EKey.enc tc),blk bc 32 [vI 0,vS (⟨#[]⟩:ByteArray),vS (⟨#[]⟩:ByteArray),vS (⟨#[]⟩:ByteArray),vS (⟨#[]⟩:ByteArray),vB false,vB false,vI 0,vI 0,vI 0,vI 0],blk ba 32 (Edu.enc a1)]++F) rfl trivial rfl rfl rfl src_sl underlying104 (.inr ⟨_,underlying104⟩) inf101 rfl (by decide) go rfl (fun _=>(pend_by (by kernel_rfl) (pend_by (by kernel_rfl) (pend_by (by kernel_rfl) (pend_by (by kernel_rfl) (pend_by (by kernel_rfl) (pend_by (by kernel_rfl) (pend_in (fun _=>trivial) pend_nil)))))))) (fun vb=>?_)
 refine Dv.nilpp han rfl trivial rfl<|fp han rfl trivial rfl fa107_1<|sx 0 rfl trivial rfl rfl (cells_one one_ov) sz104 rfl rfl rfl pB ?_
 refine .fin<|WP.seq<|dg Tryz.checked.mixed 7 64<|mv0 rfl rfl<|Dv.nilpp han rfl trivial rfl<|fp han rfl trivial rfl fa107_2<|ld 0 rfl trivial rfl sc105 rfl rfl<|lds 4 rfl trivial rfl sg101 rfl rfl<|lds 6 rfl trivial rfl sg32 rfl rfl<|Dv.mupq (jj:=2) a1 rfl trivial rfl rfl rfl (EKey.kq tc) rfl underlying105 kok101 (fun _=>pend_bits (by kernel_rfl))<|.fin<|WP.seq<|WP.seq<|dg Tryz.checked.mixed 10 0<|mv0 rfl rfl<|Dv.nilpp han rfl trivial rfl<|fp han rfl trivial rfl fa107_1<|ld 0 rfl trivial rfl sc104 rfl rfl<|Dv.lenw rfl trivial rfl (mem_at 1 rfl) underlying104<|mv0 rfl rfl<|Dv.nilpp han rfl trivial rfl<|fp han rfl trivial rfl fa107_0<|ld 0 rfl trivial rfl sc3 rfl rfl<|bn0 rfl rfl rfl run_le<|.fin<|cd H rfl (fun _ H=>?_) (fun _ H=>?_)
 ·
  refine WP.seq<|rg 4 2<|Dv.bld (qs:=[vI 0,vS (⟨#[]⟩:ByteArray),vS (⟨#[]⟩:ByteArray),vS (⟨#[]⟩:ByteArray),vS (⟨#[]⟩:ByteArray),vB false,vB false,vI 0,vI 0,vI 0,vI 0]) (css:=[]) rfl trivial underlying32 pl32 z32 rfl trivial rfl rfl<|sx 5 rfl trivial rfl rfl cA sz32 rfl rfl rfl nofun ?_
  refine as0 rfl rfl<|as0 rfl rfl<|.fin<|wg (SQue.shut (p:=p0_) (m:=(⟨tj.fmost,tj.fkeys++([tc]:List EKey),mput tj.fat tc a1,tj.flost⟩:SQue)) (gn.1,vb,gn.2.2) han (pm 7 [0,1,2,3,4,5,6])) fun _ _=>?_
  cases H.out; exact rt i2 rfl () 5 [1,2,3,4,0] 4 (.cons (res_cells rfl underlying32 rfl c32 (mem_at 3 rfl) rfl) (.cons (res_tmp rfl) (.cons (res_tmp rfl) .nil)))
 refine WP.skip<|WP.seq<|dg Tryz.checked.mixed 13 6144<|mv0 rfl rfl<|Dv.nilpp han rfl trivial rfl<|fp han rfl trivial rfl fa107_2<|ld 0 rfl trivial rfl sc105 rfl rfl<|mv0 rfl rfl<|Dv.nilpp han rfl trivial rfl<|fp han rfl trivial rfl fa107_1<|ld 0 rfl trivial rfl sc104 rfl rfl<|gr H fun gp H=>?_
 have hao:(0:Int).toNat<(tj.fkeys++([tc]:List EKey)).length:=idx_lt gp
 refine Dv.ixw rfl trivial rfl (mem_at 1 rfl) rfl underlying104 underlying101 c101 gp.1 gp.2<|Dv.ldws (j:=((0:Int).toNat)) (f:=0) rfl trivial rfl (mem_at 1 rfl) hao underlying101 rfl c101 (Nat.le_of_ble_eq_true rfl)<|Dv.mlvq (⟨0,(⟨#[]⟩:ByteArray),(⟨#[]⟩:ByteArray),(⟨#[]⟩:ByteArray),(⟨#[]⟩:ByteArray),false,false,0,0,0,0⟩:Edu) rfl trivial rfl (mem_at 2 rfl) rfl (EKey.kq ((tj.fkeys++([tc]:List EKey)).getD ((0:Int).toNat) default)) underlying105 kok101 z32 (fun _=>⟨_,rfl,Cs.eqz rfl⟩)<|al rfl trivial zc32 (fun _=>(pend_in (fun _=>(mem_at 3 rfl)) (pend_in (fun _=>(mem_at 2 rfl)) (pend_in (fun _=>(mem_at 2 rfl)) (pend_in (fun _=>(mem_at 1 rfl)) (pend_in (fun _=>trivial) (pend_in (fun _=>trivial) (pend_in (fun _=>trivial) (pend_in (fun _=>(mem_at 1 rfl)) (pend_in (fun _=>trivial) (pend_in (fun _=>trivial) (pend_in (fun _=>trivial) pend_nil)))))))))))) fun bh=>sx 0 rfl trivial rfl rfl cA sz32 rfl rfl rfl pB ?_
 refine .fin<|WP.seq<|rg 8 128<|mv0 rfl rfl<|mv0 rfl rfl<|Dv.nilpp han rfl trivial rfl<|fp han rfl trivial rfl fa107_1<|ld 1 rfl trivial rfl sc104 rfl rfl<|gr H fun gq H=>?_
 have hap:(0:Int).toNat<(tj.fkeys++([tc]:List EKey)).length:=idx_lt gq
 refine Dv.ixw rfl trivial rfl (mem_at 2 rfl) rfl underlying104 underlying101 c101 gq.1 gq.2<|Dv.ldws (j:=((0:Int).toNat)) (f:=0) rfl trivial rfl (mem_at 2 rfl) hap underlying101 rfl c101 (Nat.le_of_ble_eq_true rfl)<|vg (SQue.shut (p:=p0_) (m:=(⟨tj.fmost,tj.fkeys++([tc]:List EKey),mput tj.fat tc a1,tj.flost⟩:SQue)) (gn.1,vb,gn.2.2) han (pm 8 [1,2,3,0,4,5,6,7])) fun _ _=>?_
 refine el H fun tm haq H=>cx 6 [0,1,2,3,4,5] cal45 (queue_Queue_drop.c haq (p0_:=p0_)) nofun fun _ _=>?_
 refine .fin<|WP.seq<|rg 8 128<|mv0 rfl rfl<|Dv.nilA SQue.nn rfl trivial rfl (mem_at 0 rfl)<|vg (SQue.opn 0 rfl) fun gt har=>?_
 refine fp har rfl trivial rfl fa107_3<|ld 0 rfl trivial rfl sc3 rfl rfl<|bn0 rfl rfl rfl run_add<|Dv.nilpp har rfl trivial rfl<|fp har rfl trivial rfl fa107_3<|sx 0 rfl trivial rfl rfl cE sz3 rfl rfl rfl nofun ?_
 refine .fin<|WP.seq<|rg 4 2<|lds 3 rfl trivial rfl sg32 rfl rfl<|sx 6 rfl trivial rfl rfl cA sz32 rfl rfl rfl nofun ?_
 refine as0 rfl rfl<|as0 rfl rfl<|.fin<|wg (SQue.shut (p:=p0_) (m:=(⟨tm.fmost,tm.fkeys,tm.fat,w64 (tm.flost+1)⟩:SQue)) (gt.1,gt.2.1,gt.2.2) har (pm 8 [0,1,2,3,4,5,6,7])) fun _ _=>?_
 cases H.out; exact rt i2 rfl () 6 [1,2,3,4,5,0] 5 (.cons (res_cells rfl underlying32 rfl c32 (mem_at 4 rfl) rfl) (.cons (res_tmp rfl) (.cons (res_tmp rfl) .nil)))
theorem queue_Queue_All.c {v0_0 v0_1:OV} {b0_:Nat} (h:queue_Queue_All.f k a0=some r):Tr prog 18 [eq (.pointer (some ⟨b0_,0,none⟩))] [blk b0_ 107 [vI a0.fmost,eq v0_0.1,eq v0_1.1,vI a0.flost],own EKey.K v0_0.1 a0.fkeys,mp EKey.kv (fun x:Edu=>agg (Edu.enc x)) v0_1.1 a0.fat] (γ:=Unit) (fun _=>True) (fun g=>sl Edu.K r) (fun g=>[blk b0_ 107 [vI a0.fmost,eq v0_0.1,eq v0_1.1,vI a0.flost],own EKey.K v0_0.1 a0.fkeys,mp EKey.kv (fun x:Edu=>agg (Edu.enc x)) v0_1.1 a0.fat]):=by
 unfold queue_Queue_All.f at h
 refine tb func18 ntmps18 h fun R0 F H=>?_
 refine WP.seq<|rg 1 0<|as0 rfl rfl<|.fin<|WP.seq<|rg 1 0<|as0 rfl rfl<|.fin<|WP.seqn H (fun qa:(Int×Bool×(List Edu))×OV=>qa.1) (fun qa:(Int×Bool×(List Edu))×OV=>[(0,eq (.pointer (some ⟨b0_,0,none⟩))),(2,eq (.slice none 0 0)),(3,eq qa.2.1),(9,eq v0_0.1),(10,vI (a0.fkeys.length:Int)),(11,vI qa.1.1),(12,vB qa.1.2.1)]) (fun qa:(Int×Bool×(List Edu))×OV=>[blk b0_ 107 [vI a0.fmost,eq v0_0.1,eq v0_1.1,vI a0.flost],own EKey.K v0_0.1 a0.fkeys,mp EKey.kv (fun x:Edu=>agg (Edu.enc x)) v0_1.1 a0.fat,own Edu.K qa.2.1 qa.1.2.2]++F) (fun qa H=>?_) (fun H=>?_)
 ·
  obtain ⟨pa,va⟩:=qa
  refine WP.seq<|rg 2 0<|mv0 rfl rfl<|as0 rfl rfl<|.fin<|WP.gh (gh_frz (E':=[(2,sl Edu.K pa.2.2)]) (l':=[blk b0_ 107 [vI a0.fmost,eq v0_0.1,eq v0_1.1,vI a0.flost],own EKey.K v0_0.1 a0.fkeys,mp EKey.kv (fun x:Edu=>agg (Edu.enc x)) v0_1.1 a0.fat]++F) 3 rfl (cve_cons rfl cv_eq cve_nil) (all2_app (.cons cva_id (.cons cva_id (.cons cva_id .nil))) fun _=>cva_id)) (fun _ _=>?_)
  cases H.out; exact rt i2 rfl () 3 [0,1,2] 0 (.cons (res_tmp rfl) .nil)
 refine WP.seq<|rg 6 0<|mv0 rfl rfl<|Dv.nilp rfl trivial rfl<|fb rfl trivial rfl fa107_1<|ld 0 rfl trivial rfl sc104 rfl rfl<|Dv.lenw rfl trivial rfl (mem_at 1 rfl) underlying104<|mv0 rfl rfl<|.fin<|WP.block<|wg (st_nil Edu.K none) fun _ _=>?_
 refine wg (sg 4 [1,2,3,0] 0) fun _ _=>?_
 refine lp (fun j_ (pc:Int×(List Edu)×OV)=>queue_Queue_All.l0 k a0 j_ pc.1 pc.2.1) (0,([]:List Edu),nilV) H (fun pc=>[(0,eq (.pointer (some ⟨b0_,0,none⟩))),(2,eq (.slice none 0 0)),(3,eq pc.2.2.1),(9,eq v0_0.1),(10,vI (a0.fkeys.length:Int)),(11,vI pc.1)]) (fun pc=>[blk b0_ 107 [vI a0.fmost,eq v0_0.1,eq v0_1.1,vI a0.flost],own EKey.K v0_0.1 a0.fkeys,mp EKey.kv (fun x:Edu=>agg (Edu.enc x)) v0_1.1 a0.fat,own Edu.K pc.2.2.1 pc.2.1]++F) ?_
 rintro j_ ⟨xa,xb,vb⟩ H
 rcases j_ with _ | ja
 ·
  exact (Gets.no H).elim
 try dsimp only at H
 rw [queue_Queue_All.l0] at H
 refine WP.seq<|rg 1 0<|bn0 rfl rfl rfl run_lt<|.fin<|WP.seq<|cd H rfl (fun _ H=>?_) (fun _ H=>?_)
 rotate_left
 ·
  refine WP.exit ?_
  have H:=H.out
  exact jn ((xa,decide (xa<(a0.fkeys.length:Int)),xb),vb) H
 refine WP.skip<|WP.seq<|WP.block<|WP.seq<|rg 4 12<|gr H fun ga H=>?_
 have haa:xa.toNat<a0.fkeys.length:=idx_lt ga
 refine Dv.ixw rfl trivial rfl (mem_at 1 rfl) rfl underlying104 underlying101 c101 ga.1 ga.2<|Dv.ldws (j:=xa.toNat) (f:=0) rfl trivial rfl (mem_at 1 rfl) haa underlying101 rfl c101 (Nat.le_of_ble_eq_true rfl)<|al rfl trivial zc101 nofun fun ba=>sx 0 rfl trivial rfl rfl cA sz101 rfl rfl rfl nofun ?_
 refine .fin<|dg Tryz.checked.mixed 10 256<|mv0 rfl rfl<|mv0 rfl rfl<|Dv.nilp rfl trivial rfl<|fb rfl trivial rfl fa107_2<|ld 1 rfl trivial rfl sc105 rfl rfl<|lds 0 rfl trivial rfl sg101 rfl rfl<|Dv.mlvq (⟨0,(⟨#[]⟩:ByteArray),(⟨#[]⟩:ByteArray),(⟨#[]⟩:ByteArray),(⟨#[]⟩:ByteArray),false,false,0,0,0,0⟩:Edu) rfl trivial rfl (mem_at 3 rfl) rfl (EKey.kq (a0.fkeys.getD xa.toNat default)) underlying105 kok101 z32 (fun _=>⟨_,rfl,Cs.eqz rfl⟩)<|Dv.lit Edu.K ([(mget a0.fat (a0.fkeys.getD xa.toNat default)).getD (⟨0,(⟨#[]⟩:ByteArray),(⟨#[]⟩:ByteArray),(⟨#[]⟩:ByteArray),(⟨#[]⟩:ByteArray),false,false,0,0,0,0⟩:Edu)]:List Edu) (css:=[Edu.enc ((mget a0.fat (a0.fkeys.getD xa.toNat default)).getD (⟨0,(⟨#[]⟩:ByteArray),(⟨#[]⟩:ByteArray),(⟨#[]⟩:ByteArray),(⟨#[]⟩:ByteArray),false,false,0,0,0,0⟩:Edu))]) rfl trivial underlying23 underlying32 c32 z32 rfl (by decide) (by decide) rfl ⟨(cells_agg (Edu.K.one _)),trivial⟩ rfl rfl rfl<|gr H fun gb H=>ap Edu.K 4 ([(mget a0.fat (a0.fkeys.getD xa.toNat default)).getD (⟨0,(⟨#[]⟩:ByteArray),(⟨#[]⟩:ByteArray),(⟨#[]⟩:ByteArray),(⟨#[]⟩:ByteArray),false,false,0,0,0,0⟩:Edu)]:List Edu) src_sl underlying23 (.inr ⟨_,underlying23⟩) inf32 gb pB fun vd=>?_
 refine as0 rfl rfl<|.fin<|rg 2 0<|bn0 rfl rfl rfl run_add<|mv0 rfl rfl<|.fin<|ng (sg 5 [0,1,2,3,4] 1) fun _ _=>?_
 exact bk ja (w64 (xa+1),xb++([(mget a0.fat (a0.fkeys.getD xa.toNat default)).getD (⟨0,(⟨#[]⟩:ByteArray),(⟨#[]⟩:ByteArray),(⟨#[]⟩:ByteArray),(⟨#[]⟩:ByteArray),false,false,0,0,0,0⟩:Edu)]:List Edu),vd) H
theorem slices_Clone_Edu.c (h:slices_Clone_Edu.f a0=some r):Tr prog 80 [sl Edu.K a0] [] (γ:=OV) (fun _=>True) (fun g=>eq g.1) (fun g=>[own Edu.K g.1 r]):=by
 unfold slices_Clone_Edu.f at h
 obtain ⟨h0,h5⟩:=(Gets.of h).grd
 obtain rfl:=Gets.out h5
 clear h h5
 refine (Tr.body func80 (c:=_) rfl ntmps80 (Nat.le_of_ble_eq_true rfl) fun R0 F=>?_)
 refine WP.seq<|WP.reg [(0,false)] (by kernel_rfl)<|as0 rfl rfl<|.fin<|WP.seq<|WP.seq<|WP.reg [(0,false),(1,true)] (by kernel_rfl)<|mv0 rfl rfl<|Dv.snil rfl trivial rfl rfl underlying23 nofun (fun b hb=>?_)
 refine .fin<|WP.cond rfl (fun c0=>?_) (fun c0=>?_)
 ·
  obtain rfl:=hb c0
  refine WP.seq<|WP.reg [(0,false)] (by kernel_rfl)<|as0 rfl rfl<|.fin<|wg (st_nil Edu.K none) fun _ _=>?_
  exact rt i2 rfl nilV 1 [0] 0 (.cons (res_tmp rfl) .nil)
 refine WP.skip<|WP.seq<|WP.reg [(0,true),(1,false),(2,true),(3,false)] (by kernel_rfl)<|Dv.lit0 Edu.K rfl trivial underlying23 underlying32 c32 z32 nofun (fun v1=>?_)
 refine mv0 rfl rfl<|Dv.appx (Kd:=Edu.K) (xs:=[]) (v:=v1.1) (jj:=0) (ys:=a0) (fun v2:OV=>[own Edu.K v2.1 a0]++F) rfl trivial rfl rfl rfl src_sl underlying23 (.inr ⟨_,underlying23⟩) inf32 rfl (by decide) (by simpa using h0) rfl nofun (fun v2=>?_)
 exact as0 rfl rfl<|.fin<|rt i2 rfl v2 1 [0] 0 (.cons (res_tmp rfl) .nil)
theorem slices_IndexFunc_Edu_x.c {X1_:As} (h:slices_IndexFunc_Edu_x.f k a0 a1=some r):Tr prog 101 [sl Edu.K a0,fx_api_Edu_bool X1_ a1] [X1_] (γ:=Unit) (fun _=>True) (fun g=>vI r) (fun g=>[X1_]):=by
 unfold slices_IndexFunc_Edu_x.f at h
 refine tb func101 ntmps101 h fun R0 F H=>?_
 refine WP.seq<|rg 1 0<|as0 rfl rfl<|.fin<|WP.seqr H id (fun pa:Int×Bool=>[(0,sl Edu.K a0),(1,fx_api_Edu_bool X1_ a1),(4,vI 0),(7,vI (a0.length:Int)),(8,vI pa.1),(9,vB pa.2)]) (fun pa:Int×Bool=>[X1_]++F) (fun pa H=>?_) (fun H=>?_)
 ·
  refine WP.seq<|rg 1 0<|as0 rfl rfl<|.fin ?_
  cases H.out; exact rt i2 rfl () 1 [0] 0 (.cons (res_tmp rfl) .nil)
 refine WP.seq<|rg 3 0<|mv0 rfl rfl<|Dv.lenl rfl trivial rfl underlying23<|mv0 rfl rfl<|.fin<|WP.block<|wg (sg 1 [0] 0) fun _ _=>?_
 refine lp (fun j_ (pc:Int)=>slices_IndexFunc_Edu_x.l0 k a0 a1 j_ pc) 0 H (fun pc=>[(0,sl Edu.K a0),(1,fx_api_Edu_bool X1_ a1),(4,vI 0),(7,vI (a0.length:Int)),(8,vI pc)]) (fun pc=>[X1_]++F) ?_
 rintro j_ xa H
 rcases j_ with _ | ja
 ·
  exact (Gets.no H).elim
 try dsimp only at H
 rw [slices_IndexFunc_Edu_x.l0] at H
 refine WP.seq<|rg 1 0<|bn0 rfl rfl rfl run_lt<|.fin<|WP.seq<|cd H rfl (fun _ H=>?_) (fun _ H=>?_)
 rotate_left
 ·
  refine WP.exit ?_
  have H:=H.out
  exact jn (xa,decide (xa<(a0.length:Int))) H
 refine WP.skip<|WP.seq<|WP.block<|WP.seq<|rg 2 0<|mv0 rfl rfl<|as0 rfl rfl<|.fin<|WP.seq<|rg 6 0<|mv0 rfl rfl<|mv0 rfl rfl<|mv0 rfl rfl<|gr H fun ga H=>Dv.ixr rfl trivial rfl rfl underlying23 underlying32 c32 ga.1 ga.2<|ldsR rfl trivial rfl sg32 rfl<|el H fun ta haa H=>Dv.callfx (ret:=vB ta) (X:=X1_) (F:=F) rfl trivial rfl rfl ⟨_,_,haa,rfl,rfl⟩ (perm_to (L:=[X1_]) (F:=F) [0] rfl rfl rfl)<|.fin<|cd H rfl (fun _ H=>?_) (fun _ H=>?_)
 rotate_left
 ·
  exact WP.skip<|rg 2 0<|bn0 rfl rfl rfl run_add<|mv0 rfl rfl<|.fin<|bk ja (w64 (xa+1)) H
 refine WP.seq<|rg 2 0<|mv0 rfl rfl<|as0 rfl rfl<|.fin ?_
 have H:=H.outr
 cases H.out; exact rt i2 rfl () 1 [0] 0 (.cons (res_tmp rfl) .nil)
theorem slices_IndexFunc_Edu_xw.c {X1_:As} {p0_:OV} (h:slices_IndexFunc_Edu_xw.f k a0 a1=some r):Tr prog 101 [eq p0_.1,fx_api_Edu_bool X1_ a1] [own Edu.K p0_.1 a0,X1_] (γ:=Unit) (fun _=>True) (fun g=>vI r) (fun g=>[own Edu.K p0_.1 a0,X1_]):=by
 unfold slices_IndexFunc_Edu_xw.f at h
 refine tb func101 ntmps101 h fun R0 F H=>?_
 refine WP.seq<|rg 1 0<|as0 rfl rfl<|.fin<|WP.seqr H id (fun pa:Int×Bool=>[(0,eq p0_.1),(1,fx_api_Edu_bool X1_ a1),(4,vI 0),(7,vI (a0.length:Int)),(8,vI pa.1),(9,vB pa.2)]) (fun pa:Int×Bool=>[own Edu.K p0_.1 a0,X1_]++F) (fun pa H=>?_) (fun H=>?_)
 ·
  refine WP.seq<|rg 1 0<|as0 rfl rfl<|.fin ?_
  cases H.out; exact rt i2 rfl () 2 [0,1] 0 (.cons (res_tmp rfl) .nil)
 refine WP.seq<|rg 3 0<|mv0 rfl rfl<|Dv.lenw rfl trivial rfl (mem_at 0 rfl) underlying23<|mv0 rfl rfl<|.fin<|WP.block<|wg (sg 2 [0,1] 0) fun _ _=>?_
 refine lp (fun j_ (pc:Int)=>slices_IndexFunc_Edu_xw.l0 k a0 a1 j_ pc) 0 H (fun pc=>[(0,eq p0_.1),(1,fx_api_Edu_bool X1_ a1),(4,vI 0),(7,vI (a0.length:Int)),(8,vI pc)]) (fun pc=>[own Edu.K p0_.1 a0,X1_]++F) ?_
 rintro j_ xa H
 rcases j_ with _ | ja
 ·
  exact (Gets.no H).elim
 try dsimp only at H
 rw [slices_IndexFunc_Edu_xw.l0] at H
 refine WP.seq<|rg 1 0<|bn0 rfl rfl rfl run_lt<|.fin<|WP.seq<|cd H rfl (fun _ H=>?_) (fun _ H=>?_)
 rotate_left
 ·
  refine WP.exit ?_
  have H:=H.out
  exact jn (xa,decide (xa<(a0.length:Int))) H
 refine WP.skip<|WP.seq<|WP.block<|WP.seq<|rg 2 0<|mv0 rfl rfl<|as0 rfl rfl<|.fin<|WP.seq<|rg 6 0<|mv0 rfl rfl<|mv0 rfl rfl<|mv0 rfl rfl<|gr H fun ga H=>?_
 have haa:xa.toNat<a0.length:=idx_lt ga
 refine Dv.ixw rfl trivial rfl (mem_at 0 rfl) rfl underlying23 underlying32 c32 ga.1 ga.2<|Dv.ldws (j:=xa.toNat) (f:=0) rfl trivial rfl (mem_at 0 rfl) haa underlying32 rfl c32 (Nat.le_of_ble_eq_true rfl)<|el H fun ta hac H=>Dv.callfx (ret:=vB ta) (X:=X1_) (F:=[own Edu.K p0_.1 a0]++F) rfl trivial rfl rfl ⟨_,_,hac,rfl,rfl⟩ (perm_to (L:=[own Edu.K p0_.1 a0,X1_]) (F:=F) [1,0] rfl rfl rfl)<|.fin<|cd H rfl (fun _ H=>?_) (fun _ H=>?_)
 rotate_left
 ·
  exact WP.skip<|rg 2 0<|bn0 rfl rfl rfl run_add<|mv0 rfl rfl<|.fin<|bk ja (w64 (xa+1)) H
 refine WP.seq<|rg 2 0<|mv0 rfl rfl<|as0 rfl rfl<|.fin ?_
 have H:=H.outr
 cases H.out; exact rt i2 rfl () 2 [0,1] 0 (.cons (res_tmp rfl) .nil)
theorem slices_DeleteFunc_Edu_xo.c {X1_:As} {p0_:OV} (h:slices_DeleteFunc_Edu_xo.f k a0 a1=some r):Tr prog 82 [eq p0_.1,fx_api_Edu_bool X1_ a1] [own Edu.K p0_.1 a0,X1_] (γ:=OV) (fun _=>True) (fun g=>eq g.1) (fun g=>[X1_,own Edu.K g.1 r]):=by
 unfold slices_DeleteFunc_Edu_xo.f at h
 refine tb func82 ntmps82 h fun R0 F H=>?_
 refine WP.seq<|rg 1 0<|as0 rfl rfl<|.fin<|WP.seq<|rg 4 0<|mv0 rfl rfl<|mv0 rfl rfl<|el H fun ta haa H=>cll 2 [0,1] cal101 (slices_IndexFunc_Edu_xw.c haa (p0_:=p0_) (X1_:=X1_)) ?_
 refine as0 rfl rfl<|.fin<|WP.seq<|WP.seq<|rg 2 0<|mv0 rfl rfl<|bn0 rfl rfl rfl run_eq<|.fin<|cd H rfl (fun _ H=>?_) (fun _ H=>?_)
 ·
  refine WP.seq<|rg 2 0<|mv0 rfl rfl<|as0 rfl rfl<|.fin ?_
  obtain rfl:=Gets.out H
  exact rt i2 rfl p0_ 2 [1,0] 0 (.cons (res_tmp rfl) .nil)
 refine WP.skip<|WP.seqn H id (fun pa:Int×Int×Bool×(List Edu)=>[(0,eq p0_.1),(1,fx_api_Edu_bool X1_ a1),(4,eq (.slice none 0 0)),(5,vI pa.1),(6,vI pa.2.1),(12,vB (ta==(-1))),(19,vB pa.2.2.1)]) (fun pa:Int×Int×Bool×(List Edu)=>[own Edu.K p0_.1 pa.2.2.2,X1_]++F) (fun pa H=>?_) (fun H=>?_)
 ·
  refine WP.seq<|rg 4 8<|mv0 rfl rfl<|mv0 rfl rfl<|gr H fun ga H=>vg (st_own_form 0 rfl (List.length_pos_iff.1 (Nat.lt_of_le_of_lt (Nat.zero_le _) ga.2))) fun gb hac=>?_
  refine Dv.slkm (o':=gb.2.1+pa.1.toNat*Edu.K.sz) (m':=pa.2.2.2.length-pa.1.toNat) (c':=gb.2.2-pa.1.toNat) rfl trivial ((show opv _ _=some (eq p0_.1) from rfl).trans (congrArg (fun z=>some (eq z)) hac.1)) underlying23 underlying32 c32 (bdE_some rfl ga.1) bdE_none (Nat.le_of_lt ga.2) hac.2 (.inl (Nat.lt_of_lt_of_le ga.2 hac.2)) rfl rfl rfl<|Dv.clrw (jj:=0) (⟨0,(⟨#[]⟩:ByteArray),(⟨#[]⟩:ByteArray),(⟨#[]⟩:ByteArray),(⟨#[]⟩:ByteArray),false,false,0,0,0,0⟩:Edu) rfl trivial rfl underlying23 z32 rfl rfl (fun u hu=>List.all_eq_true.1 (show (Value.cells _).toList.all (fun u=>u.oneCell')=true by kernel_rfl) u hu) hac.1 rfl ga.2 rfl nofun<|.fin<|WP.seq<|rg 4 4<|mv0 rfl rfl<|mv0 rfl rfl<|gr H fun gi H=>Dv.slo (jj:=0) rfl trivial rfl rfl underlying23 underlying32 c32 bdE_none (bdE_some rfl gi.1) (.inl rfl) gi.2.1 gi.2.2 nofun (fun va=>?_)
  refine as0 rfl rfl<|.fin ?_
  obtain rfl:=Gets.out H
  exact rt i2 rfl va 2 [1,0] 0 (.cons (res_tmp rfl) .nil)
 refine WP.seq<|rg 3 0<|mv0 rfl rfl<|bn0 rfl rfl rfl run_add<|as0 rfl rfl<|.fin<|WP.block<|wg (sg 2 [0,1] 0) fun _ _=>?_
 refine lp (fun j_ (pc:Int×Int×(List Edu))=>slices_DeleteFunc_Edu_xo.l0 k a1 j_ pc.1 pc.2.1 pc.2.2) (ta,w64 (ta+1),a0) H (fun pc=>[(0,eq p0_.1),(1,fx_api_Edu_bool X1_ a1),(4,eq (.slice none 0 0)),(5,vI pc.1),(6,vI pc.2.1),(12,vB (ta==(-1)))]) (fun pc=>[own Edu.K p0_.1 pc.2.2,X1_]++F) ?_
 rintro j_ ⟨xa,xb,xc⟩ H
 rcases j_ with _ | ja
 ·
  exact (Gets.no H).elim
 try dsimp only at H
 rw [slices_DeleteFunc_Edu_xo.l0] at H
 refine WP.seq<|WP.seq<|rg 4 0<|mv0 rfl rfl<|mv0 rfl rfl<|Dv.lenw rfl trivial rfl (mem_at 0 rfl) underlying23<|bn0 rfl rfl rfl run_lt<|.fin<|cd H rfl (fun _ H=>?_) (fun _ H=>?_)
 rotate_left
 ·
  refine WP.exit ?_
  have H:=H.out
  exact jn (xa,xb,decide (xb<(xc.length:Int)),xc) H
 refine WP.skip<|WP.seq<|WP.block<|WP.seq<|rg 6 48<|mv0 rfl rfl<|mv0 rfl rfl<|gr H fun gj H=>?_
 have had:xb.toNat<xc.length:=idx_lt gj
 refine Dv.ixw rfl trivial rfl (mem_at 0 rfl) rfl underlying23 underlying32 c32 gj.1 gj.2<|Dv.ldws (j:=xb.toNat) (f:=0) rfl trivial rfl (mem_at 0 rfl) had underlying32 rfl c32 (Nat.le_of_ble_eq_true rfl)<|al rfl trivial zc32 nofun fun ba=>sx 0 rfl trivial rfl rfl cA sz32 rfl rfl rfl nofun ?_
 refine .fin<|WP.seq<|rg 4 0<|mv0 rfl rfl<|lds 0 rfl trivial rfl sg32 rfl rfl<|el H fun tc hae H=>Dv.callfx (ret:=vB tc) (X:=X1_) (F:=[blk ba 32 (Edu.enc (xc.getD xb.toNat default)),own Edu.K p0_.1 xc]++F) rfl trivial rfl rfl ⟨_,_,hae,rfl,rfl⟩ (perm_to (L:=[blk ba 32 (Edu.enc (xc.getD xb.toNat default)),own Edu.K p0_.1 xc,X1_]) (F:=F) [2,0,1] rfl rfl rfl)<|un0 rfl rfl (run_not _)<|.fin<|cd H rfl (fun _ H=>?_) (fun _ H=>?_)
 rotate_left
 ·
  refine WP.skip<|rg 3 0<|mv0 rfl rfl<|bn0 rfl rfl rfl run_add<|as0 rfl rfl<|.fin<|ng (sg 3 [0,1,2] 1) fun _ _=>?_
  exact bk ja (xa,w64 (xb+1),xc) H
 refine WP.seq<|rg 5 16<|mv0 rfl rfl<|mv0 rfl rfl<|lds 0 rfl trivial rfl sg32 rfl rfl<|gr H fun gk H=>?_
 have haf:xa.toNat<xc.length:=idx_lt gk
 refine Dv.ixw rfl trivial rfl (mem_at 1 rfl) rfl underlying23 underlying32 c32 gk.1 gk.2<|Dv.stw (j:=xa.toNat) (f:=0) (jj:=1) (xc.getD xb.toNat default) rfl trivial rfl rfl (cells_agg (Edu.K.one _)) underlying32 c32 rfl rfl haf (Nat.le_of_ble_eq_true rfl) rfl nofun<|.fin<|rg 3 0<|mv0 rfl rfl<|bn0 rfl rfl rfl run_add<|as0 rfl rfl<|.fin<|rg 3 0<|mv0 rfl rfl<|bn0 rfl rfl rfl run_add<|as0 rfl rfl<|.fin<|ng (sg 3 [0,1,2] 1) fun _ _=>?_
 exact bk ja (w64 (xa+1),w64 (xb+1),xc.set xa.toNat (xc.getD xb.toNat default)) H
theorem slices_Index_string.c (h:slices_Index_string.f k a0 a1=some r):Pt prog 143 [sl strK a0,vS a1] (vI r):=by
 unfold slices_Index_string.f at h
 refine pb func143 ntmps143 h fun R0 F H=>?_
 refine WP.seq<|rg 1 0<|as0 rfl rfl<|.fin<|WP.seqr H id (fun pa:Int×Bool=>[(0,sl strK a0),(1,vS a1),(4,vI 0),(7,vI (a0.length:Int)),(8,vI pa.1),(9,vB pa.2)]) (fun pa:Int×Bool=>F) (fun pa H=>?_) (fun H=>?_)
 ·
  refine WP.seq<|rg 1 0<|as0 rfl rfl<|.fin ?_
  cases H.out; exact r0 i2 rfl (.cons (res_tmp rfl) .nil)
 refine WP.seq<|rg 3 0<|mv0 rfl rfl<|Dv.lenl rfl trivial rfl underlying53<|mv0 rfl rfl<|.fin<|WP.block<|wg (sg 0 [] 0) fun _ _=>?_
 refine lp (fun j_ (pc:Int)=>slices_Index_string.l0 k a0 a1 j_ pc) 0 H (fun pc=>[(0,sl strK a0),(1,vS a1),(4,vI 0),(7,vI (a0.length:Int)),(8,vI pc)]) (fun pc=>F) ?_
 rintro j_ xa H
 rcases j_ with _ | ja
 ·
  exact (Gets.no H).elim
 try dsimp only at H
 rw [slices_Index_string.l0] at H
 refine WP.seq<|rg 1 0<|bn0 rfl rfl rfl run_lt<|.fin<|WP.seq<|cd H rfl (fun _ H=>?_) (fun _ H=>?_)
 rotate_left
 ·
  refine WP.exit ?_
  have H:=H.out
  exact jn (xa,decide (xa<(a0.length:Int))) H
 refine WP.skip<|WP.seq<|WP.block<|WP.seq<|rg 2 0<|mv0 rfl rfl<|as0 rfl rfl<|.fin<|WP.seq<|rg 6 0<|mv0 rfl rfl<|mv0 rfl rfl<|mv0 rfl rfl<|gr H fun ga H=>Dv.ixr rfl trivial rfl rfl underlying53 underlying9 c9 ga.1 ga.2<|ldR rfl trivial rfl sc9 rfl<|bn0 rfl rfl rfl run_seq<|.fin<|cd H rfl (fun _ H=>?_) (fun _ H=>?_)
 rotate_left
 ·
  exact WP.skip<|rg 2 0<|bn0 rfl rfl rfl run_add<|mv0 rfl rfl<|.fin<|bk ja (w64 (xa+1)) H
 refine WP.seq<|rg 2 0<|mv0 rfl rfl<|as0 rfl rfl<|.fin ?_
 have H:=H.outr
 cases H.out; exact r0 i2 rfl (.cons (res_tmp rfl) .nil)
theorem slices_Contains_string.c (h:slices_Contains_string.f k a0 a1=some r):Pt prog 113 [sl strK a0,vS a1] (vB r):=by
 unfold slices_Contains_string.f at h
 refine pb func113 ntmps113 h fun R0 F H=>?_
 refine WP.seq<|rg 1 0<|as0 rfl rfl<|.fin<|WP.seq<|rg 5 0<|mv0 rfl rfl<|mv0 rfl rfl<|el H fun ta haa H=>cl rfl cal143 rfl (slices_Index_string.c haa)<|bn0 rfl rfl rfl run_ge<|as0 rfl rfl<|.fin ?_
 cases H.out; exact r0 i2 rfl (.cons (res_tmp rfl) .nil)
theorem dag_New.c (h:dag_New.f a0=some r):Tr prog 90 [vS a0] [] (γ:=OV) (fun _=>True) (fun g=>eq g.1) (fun g=>[DDag.O g r]):=by
 unfold dag_New.f at h
 refine tb func90 ntmps90 h fun R0 F H=>?_
 refine WP.seq<|rg 1 0<|as0 rfl rfl<|.fin<|WP.seq<|rg 5 10<|mv0 rfl rfl<|Dv.mmk Value.string (fun p:OV=>eq p.1) rfl trivial nofun (fun va=>?_)
 refine vg (mpo_new DNode.O) fun _ _=>?_
 refine Dv.bld (qs:=[vS a0,eq va.1]) (css:=[[vS a0],[eq va.1]]) rfl trivial underlying159 pl159 z159 rfl ⟨(cells_one (one_eq rfl)),⟨(cells_one one_ov),trivial⟩⟩ rfl rfl<|Dv.box rfl trivial rfl cA nofun fun ba=>as0 rfl rfl<|.fin<|wg (DDag.shut (p:=(⟨.pointer (some ⟨ba,0,none⟩),rfl⟩:OV)) (m:=(⟨a0,([]:List (ByteArray×DNode))⟩:DDag)) (ba,va) rfl (pm 2 [0,1])) fun _ _=>?_
 obtain rfl:=Gets.out H
 exact rt i2 rfl (⟨.pointer (some ⟨ba,0,none⟩),rfl⟩:OV) 1 [0] 0 (.cons (res_tmp rfl) .nil)
theorem view_View_room.r {a0:VView} {a1:ByteArray} {r:DDag} (h:view_View_room.f a0 a1=some r):∀ x,mget a0.fdags a1=some x→x=r:=fun x e=>by
 unfold view_View_room.f at h; rw [e] at h; exact Option.some.inj h
theorem view_View_room.c {b0_:Nat} {v0_0:OV} {r:DDag} (h:view_View_room.f a0 a1=some r):Tr prog 55 [eq (.pointer (some ⟨b0_,0,none⟩)),vS a1] [blk b0_ 95 [eq v0_0.1],mpo Value.string DDag.O v0_0.1 a0.fdags] (γ:=OV) (fun _=>True) (fun g=>eq g.1) (fun g=>[blk b0_ 95 [eq v0_0.1],mpl Value.string DDag.O v0_0.1 a0.fdags a1 g,DDag.O g r]):=by
 unfold view_View_room.f at h
 refine tb func55 ntmps55 h fun R0 F H=>?_
 refine WP.seq<|WP.reg [(0,false)] (by kernel_rfl)<|as0 rfl rfl<|.fin<|WP.seq<|WP.seq<|WP.reg [(0,false),(1,false),(2,false),(3,false),(4,false),(5,false),(6,false)] (by kernel_rfl)<|mv0 rfl rfl<|Dv.nilp rfl trivial rfl<|Dv.fab rfl trivial rfl underlying95 rfl underlying93 c93 (by decide)<|Dv.ldb rfl trivial rfl underlying93 rfl (mem_at 0 rfl) rfl<|mv0 rfl rfl<|vg (mpo_opn 1 rfl) fun z1 h1=>?_
 refine Dv.mlv nilP rfl trivial rfl (mem_at 0 rfl) rfl underlying93 (keyOk_str underlying9) z120 (fun _=>rfl)<|as0 rfl rfl<|.fin<|WP.seq<|WP.reg [(0,false),(1,false)] (by kernel_rfl)<|mv0 rfl rfl<|Dv.pm1 (pm_nil h1 rfl) rfl trivial rfl rfl underlying120<|.fin<|WP.cond rfl (fun c1=>?_) (fun c1=>?_)
 ·
  have e1:(mget a0.fdags a1).isSome=true:=by cases e:mget a0.fdags a1 with | none=>rw [e] at c1; cases c1 | some _=>rfl
  have H:=H.ct e1
  obtain rfl:=Gets.out H
  refine WP.seq<|WP.reg [(0,false),(1,false)] (by kernel_rfl)<|mv0 rfl rfl<|as0 rfl rfl<|.fin<|wg (mpl_some h1 rfl e1 (pm 3 [0,1,2])) fun _ _=>?_
  exact rt i2 rfl ((mget (zipK a0.fdags z1) a1).getD nilP) 3 [2,0,1] 0 (.cons (res_tmp rfl) .nil)
 have e1:(mget a0.fdags a1).isSome=false:=by cases e:mget a0.fdags a1 with | none=>rfl | some _=>rw [e] at c1; cases c1
 have H:=H.cf e1
 refine WP.skip<|WP.seq<|WP.reg [(0,false),(1,true),(2,false)] (by kernel_rfl)<|mv0 rfl rfl<|cx 0 [] cal90 (dag_New.c (by obtain ⟨_,e,rfl⟩:=H; exact e)) nofun fun g2 _=>?_
 refine as0 rfl rfl<|.fin<|wg (mpl_none g2 h1 rfl e1 (pm 4 [1,2,0,3])) fun _ _=>?_
 exact rt i2 rfl g2 3 [2,0,1] 0 (.cons (res_tmp rfl) .nil)
theorem slices_Sort_string.c {p0_:OV} (h:slices_Sort_string.f a0=some r):Tr prog 162 [eq p0_.1] [own strK p0_.1 a0] (γ:=Unit) (fun _=>True) (fun g=>tup []) (fun g=>[own strK p0_.1 r]):=by
 unfold slices_Sort_string.f at h
 obtain ⟨h0,h5⟩:=(Gets.of h).grd
 obtain rfl:=Gets.out h5
 exact sort_tr (fun blk off cap ss w=>Go.Proofs.Any.slices_Sort_string Tryz.lays190 blk off cap ss w) (fun q cap w=>Go.Proofs.Any.slices_Sort_string_none Tryz.lays190 q cap w) h0
theorem slices_Compact_string.c {p0_:OV} (h:slices_Compact_string.f a0=some r):Tr prog 163 [eq p0_.1] [own strK p0_.1 a0] (γ:=OV) (fun _=>True) (fun g=>eq g.1) (fun g=>[own strK g.1 r]):=by
 unfold slices_Compact_string.f at h
 obtain ⟨h0,h5⟩:=(Gets.of h).grd
 obtain rfl:=Gets.out h5
 exact compact_tr (fun blk off cap ss w=>Go.Proofs.Any.slices_Compact_string Tryz.lays194 blk off cap ss w) (fun q cap w=>Go.Proofs.Any.slices_Compact_string_empty Tryz.lays194 q cap w) h0
theorem name_Home.c (h:name_Home.f k a0=some r):Pt prog 195 [vS a0] (vS r):=by
 unfold name_Home.f at h
 refine pb func195 ntmps195 h fun R0 F H=>?_
 refine WP.seq<|rg 1 0<|as0 rfl rfl<|.fin<|WP.seq<|WP.seq<|rg 8 0<|mv0 rfl rfl<|el H fun ta haa H=>cl rfl cal107 rfl (name_User.c haa)<|un0 rfl rfl (run_not _)<|mv0 rfl rfl ?_
 cases cc:!ta
 ·
  have H:=H.cf cc
  refine sk rfl rfl<|sk rfl rfl<|sk rfl rfl<|pf0 rfl rfl rfl<|.fin<|WP.cond rfl nofun (fun _=>?_)
  refine WP.skip<|WP.seq<|rg 9 0<|mv0 rfl rfl<|el H fun tc hac H=>cl rfl cal160 rfl (strings_Cut.c hac)<|mv0 rfl rfl<|ex0 rfl trivial rfl rfl<|ex0 rfl trivial rfl rfl<|ex0 rfl trivial rfl rfl<|as0 rfl rfl<|as0 rfl rfl<|as0 rfl rfl<|.fin<|WP.seq<|rg 2 0<|mv0 rfl rfl<|as0 rfl rfl<|.fin ?_
  cases H.out; exact r0 i2 rfl (.cons (res_tmp rfl) .nil)
 have H:=H.ct cc
 refine mvg rfl rfl rfl<|el H fun te had H=>Dv.call rfl (gg rfl) cal122 rfl (name_Room.c had)<|ung rfl rfl rfl (run_not _)<|pt0 rfl rfl rfl<|.fin<|cd H rfl (fun _ H=>?_) (fun _ H=>?_)
 ·
  refine WP.seq<|rg 1 0<|as0 rfl rfl<|.fin ?_
  cases H.out; exact r0 i2 rfl (.cons (res_tmp rfl) .nil)
 refine WP.skip<|WP.seq<|rg 9 0<|mv0 rfl rfl<|el H fun tf hae H=>cl rfl cal160 rfl (strings_Cut.c hae)<|mv0 rfl rfl<|ex0 rfl trivial rfl rfl<|ex0 rfl trivial rfl rfl<|ex0 rfl trivial rfl rfl<|as0 rfl rfl<|as0 rfl rfl<|as0 rfl rfl<|.fin<|WP.seq<|rg 2 0<|mv0 rfl rfl<|as0 rfl rfl<|.fin ?_
 cases H.out; exact r0 i2 rfl (.cons (res_tmp rfl) .nil)
theorem member_Homes.c (h:member_Homes.f k a0=some r):Tr prog 176 [sl strK a0] [] (γ:=OV) (fun _=>True) (fun g=>eq g.1) (fun g=>[own strK g.1 r]):=by
 unfold member_Homes.f at h
 refine tb func176 ntmps176 h fun R0 F H=>?_
 refine WP.seq<|rg 1 0<|as0 rfl rfl<|.fin<|WP.seq<|rg 1 0<|as0 rfl rfl<|.fin<|WP.seqn H (fun qa:(Int×Bool×(List ByteArray))×OV=>qa.1) (fun qa:(Int×Bool×(List ByteArray))×OV=>[(0,sl strK a0),(2,eq (.slice none 0 0)),(3,eq qa.2.1),(7,sl strK a0),(8,vI (a0.length:Int)),(9,vI qa.1.1),(10,vB qa.1.2.1)]) (fun qa:(Int×Bool×(List ByteArray))×OV=>[own strK qa.2.1 qa.1.2.2]++F) (fun qa H=>?_) (fun H=>?_)
 ·
  obtain ⟨pa,va⟩:=qa
  refine WP.seq<|rg 2 2<|mv0 rfl rfl<|el H fun ta haa H=>cx 1 [0] cal162 (slices_Sort_string.c haa (p0_:=va)) nofun fun _ _=>?_
  refine .fin<|WP.seq<|rg 3 2<|mv0 rfl rfl<|el H fun tc hac H=>cx 1 [0] cal163 (slices_Compact_string.c hac (p0_:=va)) nofun fun ga _=>?_
  refine as0 rfl rfl<|.fin ?_
  obtain rfl:=Gets.out H
  exact rt i2 rfl ga 1 [0] 0 (.cons (res_tmp rfl) .nil)
 refine WP.seq<|rg 3 0<|mv0 rfl rfl<|Dv.lenl rfl trivial rfl underlying53<|mv0 rfl rfl<|.fin<|WP.block<|wg (st_nil strK none) fun _ _=>?_
 refine wg (sg 1 [0] 0) fun _ _=>?_
 refine lp (fun j_ (pc:Int×(List ByteArray)×OV)=>member_Homes.l0 k a0 j_ pc.1 pc.2.1) (0,([]:List ByteArray),nilV) H (fun pc=>[(0,sl strK a0),(2,eq (.slice none 0 0)),(3,eq pc.2.2.1),(7,sl strK a0),(8,vI (a0.length:Int)),(9,vI pc.1)]) (fun pc=>[own strK pc.2.2.1 pc.2.1]++F) ?_
 rintro j_ ⟨xa,xb,vb⟩ H
 rcases j_ with _ | ja
 ·
  exact (Gets.no H).elim
 try dsimp only at H
 rw [member_Homes.l0] at H
 refine WP.seq<|rg 1 0<|bn0 rfl rfl rfl run_lt<|.fin<|WP.seq<|cd H rfl (fun _ H=>?_) (fun _ H=>?_)
 rotate_left
 ·
  refine WP.exit ?_
  have H:=H.out
  exact jn ((xa,decide (xa<(a0.length:Int)),xb),vb) H
 refine WP.skip<|WP.seq<|WP.block<|WP.seq<|rg 3 0<|gr H fun gb H=>Dv.ixr rfl trivial rfl rfl underlying53 underlying9 c9 gb.1 gb.2<|ldR rfl trivial rfl sc9 rfl<|as0 rfl rfl<|.fin<|WP.seq<|rg 3 0<|mv0 rfl rfl<|el H fun te had H=>cl rfl cal195 rfl (name_Home.c had)<|as0 rfl rfl<|.fin<|WP.seq<|rg 2 0<|mv0 rfl rfl<|bn0 rfl rfl rfl run_sne<|.fin<|cd H rfl (fun _ H=>?_) (fun _ H=>?_)
 rotate_left
 ·
  exact WP.skip<|rg 2 0<|bn0 rfl rfl rfl run_add<|mv0 rfl rfl<|.fin<|bk ja (w64 (xa+1),xb,vb) H
 refine rg 5 8<|mv0 rfl rfl<|mv0 rfl rfl<|Dv.lit strK ([te]:List ByteArray) (css:=[[vS te]]) rfl trivial underlying53 underlying9 c9 z9 rfl (by decide) (by decide) rfl ⟨(cells_one (one_eq rfl)),trivial⟩ rfl rfl rfl<|gr H fun gi H=>ap strK 0 ([te]:List ByteArray) src_sl underlying53 (.inr ⟨_,underlying53⟩) inf9 gi nofun fun vd=>?_
 exact as0 rfl rfl<|.fin<|rg 2 0<|bn0 rfl rfl rfl run_add<|mv0 rfl rfl<|.fin<|bk ja (w64 (xa+1),xb++([te]:List ByteArray),vd) H
theorem slices_Clone_string.c (h:slices_Clone_string.f a0=some r):Tr prog 124 [sl strK a0] [] (γ:=OV) (fun _=>True) (fun g=>eq g.1) (fun g=>[own strK g.1 r]):=by
 unfold slices_Clone_string.f at h
 obtain ⟨h0,h5⟩:=(Gets.of h).grd
 obtain rfl:=Gets.out h5
 clear h h5
 refine (Tr.body func124 (c:=_) rfl ntmps124 (Nat.le_of_ble_eq_true rfl) fun R0 F=>?_)
 refine WP.seq<|WP.reg [(0,false)] (by kernel_rfl)<|as0 rfl rfl<|.fin<|WP.seq<|WP.seq<|WP.reg [(0,false),(1,true)] (by kernel_rfl)<|mv0 rfl rfl<|Dv.snil rfl trivial rfl rfl underlying53 nofun (fun b hb=>?_)
 refine .fin<|WP.cond rfl (fun c0=>?_) (fun c0=>?_)
 ·
  obtain rfl:=hb c0
  refine WP.seq<|WP.reg [(0,false)] (by kernel_rfl)<|as0 rfl rfl<|.fin<|wg (st_nil strK none) fun _ _=>?_
  exact rt i2 rfl nilV 1 [0] 0 (.cons (res_tmp rfl) .nil)
 refine WP.skip<|WP.seq<|WP.reg [(0,true),(1,false),(2,true),(3,false)] (by kernel_rfl)<|Dv.lit0 strK rfl trivial underlying53 underlying9 c9 z9 nofun (fun v1=>?_)
 refine mv0 rfl rfl<|Dv.appx (Kd:=strK) (xs:=[]) (v:=v1.1) (jj:=0) (ys:=a0) (fun v2:OV=>[own strK v2.1 a0]++F) rfl trivial rfl rfl rfl src_sl underlying53 (.inr ⟨_,underlying53⟩) inf9 rfl (by decide) (by simpa using h0) rfl nofun (fun v2=>?_)
 exact as0 rfl rfl<|.fin<|rt i2 rfl v2 1 [0] 0 (.cons (res_tmp rfl) .nil)
theorem dag_own.c (h:dag_own.f a0=some r):Pt prog 95 [agg (Event.enc a0)] (agg (Event.enc r)):=by
 unfold dag_own.f at h
 refine pb func95 ntmps95 h fun R0 F H=>?_
 refine WP.seq<|rg 2 3<|Dv.box rfl trivial rfl cA nofun fun ba=>al rfl trivial zc55 nofun fun bc=>.fin<|WP.seq<|rg 5 20<|fb rfl trivial rfl fa55_2<|ld 1 rfl trivial rfl sc53 rfl rfl<|el H fun ta haa H=>cx 2 [0,1] cal124 (slices_Clone_string.c haa) nofun fun ga _=>?_
 refine fb rfl trivial rfl fa55_2<|sx 2 rfl trivial rfl rfl (cells_one one_ov) sz53 rfl rfl rfl nofun ?_
 refine .fin<|WP.seq<|rg 2 2<|lds 2 rfl trivial rfl sg55 rfl rfl<|sx 1 rfl trivial rfl rfl cA sz55 rfl rfl rfl nofun ?_
 refine .fin<|WP.gh (gh_frz (E':=[(2,eq (.pointer (some ⟨bc,0,none⟩)))]) (l':=[blk bc 55 [vS a0.fID,vS a0.fRoom,sl strK ta,vS a0.fThread,vS a0.fUser,vI a0.fDoes],blk ba 55 [vS a0.fID,vS a0.fRoom,sl strK ta,vS a0.fThread,vS a0.fUser,vI a0.fDoes]]++F) 0 rfl (cve_cons rfl cv_id cve_nil) (all2_app (.cons (cva_blk (.cons cv_id (.cons cv_id (.cons cv_eq (.cons cv_id (.cons cv_id (.cons cv_id .nil))))))) (.cons (cva_blk (.cons cv_id (.cons cv_id (.cons cv_eq (.cons cv_id (.cons cv_id (.cons cv_id .nil))))))) .nil)) fun _=>cva_id)) (fun _ _=>?_)
 cases H.out; exact r2 i2 rfl (.cons (res_cells rfl underlying55 rfl c55 (mem_at 0 rfl) rfl) .nil)
theorem cmp_isNaN_string.c (h:cmp_isNaN_string.f a0=some r):Pt prog 206 [vS a0] (vB r):=by
 unfold cmp_isNaN_string.f at h
 refine pb func206 ntmps206 h fun R0 F H=>?_
 refine WP.seq<|rg 1 0<|as0 rfl rfl<|.fin<|WP.seq<|rg 4 0<|mv0 rfl rfl<|mv0 rfl rfl<|bn0 rfl rfl rfl run_sne<|as0 rfl rfl<|.fin ?_
 cases H.out; exact r0 i2 rfl (.cons (res_tmp rfl) .nil)
theorem cmp_Compare_string.c (h:cmp_Compare_string.f a0 a1=some r):Pt prog 215 [vS a0,vS a1] (vI r):=by
 unfold cmp_Compare_string.f at h
 refine pb func215 ntmps215 h fun R0 F H=>?_
 refine WP.seq<|rg 1 0<|as0 rfl rfl<|.fin<|WP.seq<|rg 3 0<|mv0 rfl rfl<|el H fun ta haa H=>cl rfl cal206 rfl (cmp_isNaN_string.c haa)<|as0 rfl rfl<|.fin<|WP.seq<|rg 3 0<|mv0 rfl rfl<|el H fun tc hac H=>cl rfl cal206 rfl (cmp_isNaN_string.c hac)<|as0 rfl rfl<|.fin<|WP.seq<|WP.seq<|rg 1 0<|mv0 rfl rfl<|.fin<|cd H rfl (fun _ H=>?_) (fun _ H=>?_)
 ·
  refine WP.seq<|WP.seq<|rg 1 0<|mv0 rfl rfl<|.fin<|cd H rfl (fun _ H=>?_) (fun _ H=>?_)
  ·
   refine WP.seq<|rg 1 0<|as0 rfl rfl<|.fin ?_
   cases H.out; exact r0 i2 rfl (.cons (res_tmp rfl) .nil)
  refine WP.skip<|WP.seq<|rg 1 0<|as0 rfl rfl<|.fin ?_
  cases H.out; exact r0 i2 rfl (.cons (res_tmp rfl) .nil)
 refine WP.skip<|WP.seq<|WP.seq<|rg 1 0<|mv0 rfl rfl<|.fin<|cd H rfl (fun _ H=>?_) (fun _ H=>?_)
 ·
  refine WP.seq<|rg 1 0<|as0 rfl rfl<|.fin ?_
  cases H.out; exact r0 i2 rfl (.cons (res_tmp rfl) .nil)
 refine WP.skip<|WP.seq<|WP.seq<|rg 3 0<|mv0 rfl rfl<|mv0 rfl rfl<|bn0 rfl rfl rfl run_slt<|.fin<|cd H rfl (fun _ H=>?_) (fun _ H=>?_)
 ·
  refine WP.seq<|rg 1 0<|as0 rfl rfl<|.fin ?_
  cases H.out; exact r0 i2 rfl (.cons (res_tmp rfl) .nil)
 refine WP.skip<|WP.seq<|WP.seq<|rg 3 0<|mv0 rfl rfl<|mv0 rfl rfl<|bn0 rfl rfl rfl run_sgt<|.fin<|cd H rfl (fun _ H=>?_) (fun _ H=>?_)
 ·
  refine WP.seq<|rg 1 0<|as0 rfl rfl<|.fin ?_
  cases H.out; exact r0 i2 rfl (.cons (res_tmp rfl) .nil)
 refine WP.skip<|WP.seq<|rg 1 0<|as0 rfl rfl<|.fin ?_
 cases H.out; exact r0 i2 rfl (.cons (res_tmp rfl) .nil)
theorem dag_Compare.c (h:dag_Compare.f k a0 a1=some r):Pt prog 213 [agg (Pos.enc a0),agg (Pos.enc a1)] (vI r):=by
 unfold dag_Compare.f at h
 refine pb func213 ntmps213 h fun R0 F H=>?_
 refine WP.seq<|rg 3 3<|Dv.box rfl trivial rfl cA nofun fun ba=>Dv.box rfl trivial rfl cA nofun fun bc=>as0 rfl rfl<|.fin<|WP.seq<|dg Tryz.checked.mixed 13 0<|fb rfl trivial rfl fa226_0<|ld 1 rfl trivial rfl sc3 rfl rfl<|fb rfl trivial rfl fa226_0<|ld 0 rfl trivial rfl sc3 rfl rfl<|el H fun ta haa H=>cl rfl cal109 rfl (cmp_Compare_int.c haa)<|fb rfl trivial rfl fa226_1<|ld 1 rfl trivial rfl sc9 rfl rfl<|fb rfl trivial rfl fa226_1<|ld 0 rfl trivial rfl sc9 rfl rfl<|el H fun tc hac H=>cl rfl cal215 rfl (cmp_Compare_string.c hac)<|Dv.lit (intK .i64) ([ta,tc]:List Int) (css:=[[vI ta],[vI tc]]) rfl trivial underlying61 underlying3 c3 z3 rfl (by decide) (by decide) rfl ⟨(cells_one (one_eq rfl)),⟨(cells_one (one_eq rfl)),trivial⟩⟩ rfl rfl rfl<|el H fun te had H=>cl rfl cal108 rfl (cmp_Or_int.c had)<|as0 rfl rfl<|.fin ?_
 cases H.out; exact r2 i2 rfl (.cons (res_tmp rfl) .nil)
theorem posC_f (x y:Pos):dag_Compare.f 8 x y=some (posC x y):=by
 unfold dag_Compare.f cmp_Compare_int.f cmp_Compare_string.f cmp_isNaN_int.f cmp_isNaN_string.f cmp_Or_int.f posC cmpS
 simp only [Option.bind_some,bne_self_eq_false,decide_true,Bool.not_true,cond_false]
 rcases Int.lt_trichotomy x.fDepth y.fDepth with h | h | h
 ·
  have h2:¬ y.fDepth<x.fDepth:=by omega
  simp only [h,decide_true,cond_true,Option.bind_some,if_true]
  cases sLt x.fID y.fID <;> cases sLt y.fID x.fID <;> rfl
 rotate_left
 ·
  have h1:¬ x.fDepth<y.fDepth:=by omega
  simp only [h,h1,decide_true,decide_false,cond_true,cond_false,Option.bind_some,if_true,if_false]
  cases sLt x.fID y.fID <;> cases sLt y.fID x.fID <;> rfl
 have h1:¬ x.fDepth<y.fDepth:=by omega
 have h2:¬ y.fDepth<x.fDepth:=by omega
 simp only [h1,h2,decide_false,cond_false,Option.bind_some,if_false]
 cases sLt x.fID y.fID <;> cases sLt y.fID x.fID <;> rfl
theorem posC_lt (x y:Pos):ltOf posC x y=true↔x.fDepth<y.fDepth∨(x.fDepth=y.fDepth∧sLt x.fID y.fID=true):=by
 unfold ltOf posC
 rw [decide_eq_true_eq]
 by_cases h:x.fDepth<y.fDepth
 ·
  simp [h]
 by_cases h2:y.fDepth<x.fDepth
 ·
  rw [if_neg h,if_pos h2]; constructor
  ·
   intro k; omega
  rintro (k | ⟨k,_⟩) <;> omega
 rw [if_neg h,if_neg h2,cmpS_lt]; constructor
 ·
  intro k; exact .inr ⟨by omega,k⟩
 rintro (k | ⟨_,k⟩)
 ·
  omega
 exact k
theorem posC_nlt (x y:Pos):ltOf posC x y=false↔y.fDepth<x.fDepth∨(x.fDepth=y.fDepth∧sLt x.fID y.fID=false):=by
  have h:=posC_lt x y
  cases e:ltOf posC x y with
  | true=>
    have h:=h.1 e
    refine ⟨fun k=>(by cases k),fun k=>?_⟩
    rcases h with h | ⟨h1,h2⟩ <;> rcases k with k | ⟨k1,k2⟩
    · omega
    · omega
    · omega
    · rw [h2] at k2; cases k2
  | false=>
    refine ⟨fun _=>?_,fun _=>rfl⟩
    rw [e] at h
    have h:¬ _:=fun k=>by have:=h.2 k; cases this
    rcases Int.lt_trichotomy x.fDepth y.fDepth with k | k | k
    · exact (h (.inl k)).elim
    · cases e2:sLt x.fID y.fID with
      | true=>exact (h (.inr ⟨k,e2⟩)).elim
      | false=>exact .inr ⟨k,rfl⟩
    · exact .inl k
theorem posC_swo:Go.Sort.SWO (ltOf posC) where
  irrefl x:=by rw [posC_nlt]; exact .inr ⟨rfl,sLt_irrefl _⟩
  trans x y z h1 h2:=by
    rw [posC_lt] at *
    rcases h1 with h1 | ⟨h1,k1⟩ <;> rcases h2 with h2 | ⟨h2,k2⟩
    · exact .inl (by omega)
    · exact .inl (by omega)
    · exact .inl (by omega)
    · exact .inr ⟨by omega,sLt_trans k1 k2⟩
  ntrans x y z h1 h2:=by
    rw [posC_nlt] at *
    rcases h1 with h1 | ⟨h1,k1⟩ <;> rcases h2 with h2 | ⟨h2,k2⟩
    · exact .inl (by omega)
    · exact .inl (by omega)
    · exact .inl (by omega)
    · exact .inr ⟨by omega,sLt_ntrans k2 k1⟩
theorem posC_tot (x y:Pos) (h1:ltOf posC x y=false) (h2:ltOf posC y x=false):x=y:=by
 rw [posC_nlt] at *
 rcases h1 with h1 | ⟨h1,k1⟩ <;> rcases h2 with h2 | ⟨h2,k2⟩
 ·
  omega
 ·
  omega
 ·
  omega
 obtain ⟨a,b⟩:=x; obtain ⟨c,d⟩:=y
 simp only at h1 k1 k2
 rw [h1,sLt_conn k1 k2]
theorem slices_SortFunc_Position.c {p0_:OV} (h:slices_SortFunc_Position.f a0=some r):Tr prog 212 [eq p0_.1,eq (.func (.func 213) #[] #[])] [own Pos.K p0_.1 a0] (γ:=Unit) (fun _=>True) (fun g=>tup []) (fun g=>[own Pos.K p0_.1 r]):=by
 unfold slices_SortFunc_Position.f at h
 obtain ⟨h0,h5⟩:=(Gets.of h).grd
 obtain rfl:=Gets.out h5
 exact sortf_tr (K:=Pos.K) (ev:=fun x=>[.int .i64 x.fDepth,.string x.fID]) (fun _=>rfl) (by decide) (fun x y=>dag_Compare.c (posC_f x y)) (fun blk off cap d w hc hH hb hs=>AnyQ.slices_SortFunc_total Tryz.lays6 2 Tryz.isAgg226 Tryz.sizeOf226 _ (fun _=>rfl) (fun x v hv=>by simp at hv; rcases hv with rfl | rfl <;> rfl) posC posC_swo 213 #[] blk off cap d w (enters_of func213 (by kernel_rfl) rfl) hc hH hb hs posC_tot) (fun q cap w=>AnyF.slices_SortFunc_none Tryz.lays6 q cap _ w) (by omega)
theorem dag_Dag_All_1.c {b0_:Nat} (h:dag_Dag_All_1.f a0=some r):Tr prog 211 [eq (.pointer (some ⟨b0_,0,none⟩))] [blk b0_ 163 [vS a0.fe.fID,vS a0.fe.fRoom,sl strK a0.fe.fParents,vS a0.fe.fThread,vS a0.fe.fUser,vI a0.fe.fDoes,vI a0.fdepth,vB a0.fparent]] (γ:=Unit) (fun _=>True) (fun g=>vB r) (fun g=>[blk b0_ 163 [vS a0.fe.fID,vS a0.fe.fRoom,sl strK a0.fe.fParents,vS a0.fe.fThread,vS a0.fe.fUser,vI a0.fe.fDoes,vI a0.fdepth,vB a0.fparent]]):=by
 unfold dag_Dag_All_1.f at h
 refine tb func211 ntmps211 h fun R0 F H=>?_
 refine WP.seq<|rg 1 0<|as0 rfl rfl<|.fin<|WP.seq<|rg 1 0<|as0 rfl rfl<|.fin ?_
 cases H.out; exact rt i2 rfl () 1 [0] 0 (.cons (res_tmp rfl) .nil)
theorem dag_Dag_ids_All.c {b0_:Nat} {v0_0:OV} (h:dag_Dag_ids_All.f a0=some r):Tr prog 210 [eq (.pointer (some ⟨b0_,0,none⟩)),eq (.func (.func 211) #[] #[])] [blk b0_ 159 [vS a0.froom,eq v0_0.1],mpo Value.string DNode.O v0_0.1 a0.fnodes] (γ:=OV) (fun _=>True) (fun g=>eq g.1) (fun g=>[blk b0_ 159 [vS a0.froom,eq v0_0.1],mpo Value.string DNode.O v0_0.1 a0.fnodes,own strK g.1 r]):=by
  unfold dag_Dag_ids_All.f at h
  obtain ⟨h0,h5⟩:=(Gets.of h).grd
  obtain rfl:=Gets.out h5
  clear h h5
  refine Tr.body func210 (c:=_) rfl ntmps210 (Nat.le_of_ble_eq_true rfl) fun R0 F=>?_
  refine WP.seq<|rg 1 0<|as0 rfl rfl<|.fin<|WP.seq<|rg 1 0<|as0 rfl rfl<|.fin ?_
  refine WP.seqj (β:=List Nat×OV) (fun b=>b.1.Perm (List.range a0.fnodes.length)) (fun b=>[(5,eq b.2.1),(1,eq (.func (.func 211) #[] #[]))]) (fun b=>[own Pos.K b.2.1 (selM a0.fnodes dag_Dag_ids_All.g b.1),mpo Value.string DNode.O v0_0.1 a0.fnodes,blk b0_ 159 [vS a0.froom,eq v0_0.1]]++F) (fun b hb=>?_) ?_
  rotate_left
  · refine WP.seq<|rg 5 16<|mv0 rfl rfl<|Dv.nilp rfl trivial rfl<|fb rfl trivial rfl fa159_1<|ld 0 rfl trivial rfl sc157 rfl rfl ?_
    refine Dv.gh (l':=fun ps:List OV=>[mp Value.string (fun p:OV=>eq p.1) v0_0.1 (zipK a0.fnodes ps),thg DNode.O a0.fnodes ps,blk b0_ 159 [vS a0.froom,eq v0_0.1]]++F) (gh_of (mpo_opn 1 rfl)) (fun ps hps=>?_)
    refine Dv.rgb (jj:=0) rfl trivial rfl rfl underlying157 nofun (fun q=>.fin ?_)
    refine WP.gh (l':=fun _:Unit=>[rng Value.string (fun p:OV=>eq p.1) v0_0.1 q.1 (zipK a0.fnodes ps) [],thg DNode.O a0.fnodes ps,blk b0_ 159 [vS a0.froom,eq v0_0.1]]++F) (gh_of (ok:=fun _=>True) fun R w k=>⟨(),trivial,k⟩) (fun _ _=>?_)
    refine WP.gh (l':=fun _:Unit=>[own Pos.K nilV.1 [],rng Value.string (fun p:OV=>eq p.1) v0_0.1 q.1 (zipK a0.fnodes ps) [],thg DNode.O a0.fnodes ps,blk b0_ 159 [vS a0.froom,eq v0_0.1]]++F) (gh_of (st_nil Pos.K none)) (fun _ _=>?_)
    refine WP.block ?_
    refine WP.weak (E':=(fun b:List Nat×OV=>[(5,eq b.2.1),(15,eq q.1),(1,eq (.func (.func 211) #[] #[]))]) ([],nilV)) (weak_cons rfl (weak_cons rfl (weak_cons rfl weak_nil))) (WP.loop (β:=List Nat×OV) (fun k b=>b.1.length+k=a0.fnodes.length) (fun b=>[(5,eq b.2.1),(15,eq q.1),(1,eq (.func (.func 211) #[] #[]))]) (fun b=>[own Pos.K b.2.1 (selM a0.fnodes dag_Dag_ids_All.g b.1),rng Value.string (fun p:OV=>eq p.1) v0_0.1 q.1 (zipK a0.fnodes ps) b.1,thg DNode.O a0.fnodes ps,blk b0_ 159 [vS a0.froom,eq v0_0.1]]++F) ?_ (k:=a0.fnodes.length) (b:=([],nilV)) (Nat.zero_add _))
    rintro k ⟨is,v⟩ hk
    replace hk:is.length+k=a0.fnodes.length:=hk
    refine WP.seq<|rg 2 1<|Dv.rgn (jj:=1) rfl trivial rfl rfl nofun (fun z hz=>?_)
    rcases z with _ | j
    · have hz:is.Perm (List.range (zipK a0.fnodes ps).length):=hz
      rw [zipK_len hps.1] at hz
      refine ex0 rfl trivial rfl rfl<|.fin<|WP.seq<|WP.cond rfl nofun (fun _=>WP.exit ?_)
      refine Dn.gh (l':=fun _:Unit=>[own Pos.K v.1 (selM a0.fnodes dag_Dag_ids_All.g is),rng Value.string (fun p:OV=>eq p.1) v0_0.1 q.1 (zipK a0.fnodes ps) is,thg DNode.O a0.fnodes ps,blk b0_ 159 [vS a0.froom,eq v0_0.1]]++F) (gh_of (ok:=fun _=>True) fun R w k=>⟨(),trivial,k⟩) (fun _ _=>?_)
      refine Dn.gh (l':=fun _:Unit=>[mp Value.string (fun p:OV=>eq p.1) v0_0.1 (zipK a0.fnodes ps),own Pos.K v.1 (selM a0.fnodes dag_Dag_ids_All.g is),thg DNode.O a0.fnodes ps,blk b0_ 159 [vS a0.froom,eq v0_0.1]]++F) (gh_of (st_rge (pm 4 [1,0,2,3]))) (fun _ _=>?_)
      refine Dn.gh (l':=fun _:Unit=>[mpo Value.string DNode.O v0_0.1 a0.fnodes,own Pos.K v.1 (selM a0.fnodes dag_Dag_ids_All.g is),blk b0_ 159 [vS a0.froom,eq v0_0.1]]++F) (gh_of (mpo_shut hps rfl (pm 4 [0,2,1,3]))) (fun _ _=>?_)
      exact Jn.mk (is,v) hz (weak_cons rfl (weak_cons rfl weak_nil)) (perm_ton 3 [1,0,2] (by kernel_rfl) rfl rfl)
    have hz:j<(zipK a0.fnodes ps).length∧j ∉ is∧is.length<(zipK a0.fnodes ps).length:=hz
    obtain ⟨e,p,he,hp,hep⟩:=zipK_get hps hz.1
    have hlt:is.length<a0.fnodes.length:=by rw [← zipK_len hps.1]; exact hz.2.2
    have hsl:=Nat.le_trans (selM_len (m:=a0.fnodes) (f:=dag_Dag_ids_All.g) (is:=is)) (Nat.le_of_lt hlt)
    have e1:nxV Value.string (fun p:OV=>eq p.1) (zipK a0.fnodes ps) (some j)=tup [vB true,vS e.1,eq p.1]:=by simp only [nxV,hep]
    rw [e1]
    refine ex0 rfl trivial rfl rfl<|.fin<|WP.seq<|WP.cond rfl (fun _=>WP.skip ?_) nofun
    refine WP.gh (l':=fun _:Unit=>[own Pos.K v.1 (selM a0.fnodes dag_Dag_ids_All.g is),rng Value.string (fun p:OV=>eq p.1) v0_0.1 q.1 (zipK a0.fnodes ps) (is++[j]),thg DNode.O a0.fnodes ps,blk b0_ 159 [vS a0.froom,eq v0_0.1]]++F) (gh_of (ok:=fun _=>True) fun R w k=>⟨(),trivial,k⟩) (fun _ _=>?_)
    refine WP.block<|WP.seq<|rg 5 0<|Dv.rge 1 rfl trivial rfl rfl hep ?_
    refine ex0 rfl trivial rfl rfl<|ex0 rfl trivial rfl rfl<|as0 rfl rfl<|as0 rfl rfl<|.fin ?_
    refine WP.gh (l':=fun _:Unit=>[DNode.O p e.2,thgX DNode.O a0.fnodes ps j,own Pos.K v.1 (selM a0.fnodes dag_Dag_ids_All.g is),rng Value.string (fun p:OV=>eq p.1) v0_0.1 q.1 (zipK a0.fnodes ps) (is++[j]),blk b0_ 159 [vS a0.froom,eq v0_0.1]]++F) (gh_of (thg_foc he hp (pm 4 [2,0,1,3]))) (fun _ _=>?_)
    refine WP.gh (l':=fun b:Nat=>[blk b 163 [vS e.2.fe.fID,vS e.2.fe.fRoom,sl strK e.2.fe.fParents,vS e.2.fe.fThread,vS e.2.fe.fUser,vI e.2.fe.fDoes,vI e.2.fdepth,vB e.2.fparent],thgX DNode.O a0.fnodes ps j,own Pos.K v.1 (selM a0.fnodes dag_Dag_ids_All.g is),rng Value.string (fun p:OV=>eq p.1) v0_0.1 q.1 (zipK a0.fnodes ps) (is++[j]),blk b0_ 159 [vS a0.froom,eq v0_0.1]]++F) (gh_of (DNode.opn 0 rfl)) (fun b hb=>?_)
    refine WP.seq<|rg 3 0<|mv0 rfl rfl<|mv0 rfl rfl<|Dv.callc (fst:=#[]) (B:=[blk b 163 [vS e.2.fe.fID,vS e.2.fe.fRoom,sl strK e.2.fe.fParents,vS e.2.fe.fThread,vS e.2.fe.fUser,vI e.2.fe.fDoes,vI e.2.fdepth,vB e.2.fparent]]) (F:=[thgX DNode.O a0.fnodes ps j,own Pos.K v.1 (selM a0.fnodes dag_Dag_ids_All.g is),rng Value.string (fun p:OV=>eq p.1) v0_0.1 q.1 (zipK a0.fnodes ps) (is++[j]),blk b0_ 159 [vS a0.froom,eq v0_0.1]]++F) rfl trivial rfl cal211 rfl (Tr.weak (dag_Dag_All_1.c (a0:=e.2) (b0_:=b) (r:=true) rfl) (.cons (wk_ptr hb) .nil)) (List.Perm.refl _)<|.fin ?_
    refine WP.cond rfl (fun c1=>?_) (fun c1=>?_)
    · have hg:dag_Dag_ids_All.g e=some ⟨e.2.fdepth,e.1⟩:=by unfold dag_Dag_ids_All.g; rw [c1]; rfl
      have e6:=selM_some (f:=dag_Dag_ids_All.g) (is:=is) he hg
      have hbd:(selM a0.fnodes dag_Dag_ids_All.g is).length+([⟨e.2.fdepth,e.1⟩]:List Pos).length≤9223372036854775807∧((selM a0.fnodes dag_Dag_ids_All.g is).length+([⟨e.2.fdepth,e.1⟩]:List Pos).length)*24≤140737488355328:=by rw [List.length_singleton]; omega
      refine rg 10 256<|mv0 rfl rfl<|mv0 rfl rfl<|Dv.nilpp hb rfl trivial rfl<|fp hb rfl trivial rfl fa163_1<|ld 0 rfl trivial rfl sc3 rfl rfl<|mv0 rfl rfl<|Dv.bld (css:=[[vI e.2.fdepth],[vS e.1]]) rfl trivial underlying226 pl226 z226 rfl ⟨(cells_one (one_eq rfl)),⟨(cells_one (one_eq rfl)),trivial⟩⟩ rfl rfl<|Dv.lit Pos.K ([⟨e.2.fdepth,e.1⟩]:List Pos) (css:=[[vI e.2.fdepth,vS e.1]]) rfl trivial underlying257 underlying226 c226 z226 rfl (by decide) (by decide) rfl ⟨cA,trivial⟩ rfl rfl rfl<|ap Pos.K 2 ([⟨e.2.fdepth,e.1⟩]:List Pos) src_sl underlying257 (.inr ⟨_,underlying257⟩) inf226 hbd nofun fun v9=>as0 rfl rfl<|.fin ?_
      refine Dn.gh (l':=fun _:Unit=>[DNode.O p e.2,thgX DNode.O a0.fnodes ps j,own Pos.K v9.1 ((selM a0.fnodes dag_Dag_ids_All.g is)++([⟨e.2.fdepth,e.1⟩]:List Pos)),rng Value.string (fun p:OV=>eq p.1) v0_0.1 q.1 (zipK a0.fnodes ps) (is++[j]),blk b0_ 159 [vS a0.froom,eq v0_0.1]]++F) (gh_of (DNode.shut (p:=p) (m:=e.2) b hb (List.Perm.refl _))) (fun _ _=>?_)
      refine Dn.gh (l':=fun _:Unit=>[thg DNode.O a0.fnodes ps,own Pos.K v9.1 ((selM a0.fnodes dag_Dag_ids_All.g is)++([⟨e.2.fdepth,e.1⟩]:List Pos)),rng Value.string (fun p:OV=>eq p.1) v0_0.1 q.1 (zipK a0.fnodes ps) (is++[j]),blk b0_ 159 [vS a0.froom,eq v0_0.1]]++F) (gh_of (thg_unf he hp (List.Perm.refl _))) (fun _ _=>?_)
      rw [e6]
      exact Back.mk (k-1) (is++[j],v9) (by omega) (by show (is++[j]).length+(k-1)=_; rw [List.length_append,List.length_singleton]; omega) (weak_cons rfl (weak_cons rfl (weak_cons rfl weak_nil))) (perm_ton 4 [1,2,0,3] (by kernel_rfl) rfl rfl)
    cases c1
  obtain ⟨is,v5⟩:=b
  replace hb:is.Perm (List.range a0.fnodes.length):=hb
  have hp:=selM_perm (f:=dag_Dag_ids_All.g) hb
  have hs:slices_SortFunc_Position.f (selM a0.fnodes dag_Dag_ids_All.g is)=some (srtF posC (a0.fnodes.filterMap dag_Dag_ids_All.g)):=by
    unfold slices_SortFunc_Position.f Sp.grd
    rw [if_pos (by rw [hp.length_eq]; exact Nat.le_trans (List.length_filterMap_le _ _) h0),srtF_perm posC_swo posC_tot hp]
  have hS:(srtF posC (a0.fnodes.filterMap dag_Dag_ids_All.g)).length≤1000000:=by unfold srtF; rw [List.length_mergeSort]; exact Nat.le_trans (List.length_filterMap_le _ _) h0
  refine WP.seq<|rg 2 2<|mv0 rfl rfl<|cx 3 [0,1,2] cal212 (slices_SortFunc_Position.c hs (p0_:=v5)) nofun fun _ _=>.fin ?_
  generalize srtF posC (a0.fnodes.filterMap dag_Dag_ids_All.g)=S at hS
  refine WP.seq<|rg 1 0<|as0 rfl rfl<|.fin ?_
  refine WP.seqj (β:=OV) (fun _=>True) (fun v=>[(8,eq v.1)]) (fun v=>[own strK v.1 (S.map (·.fID)),own Pos.K v5.1 S,mpo Value.string DNode.O v0_0.1 a0.fnodes,blk b0_ 159 [vS a0.froom,eq v0_0.1]]++F) (fun v _=>?_) ?_
  · refine WP.seq<|rg 2 0<|mv0 rfl rfl<|as0 rfl rfl<|.fin<|rt i2 rfl v 4 [1,3,2,0] 1 (.cons (res_tmp rfl) .nil)
  refine WP.seq<|rg 3 0<|mv0 rfl rfl<|Dv.lenw (Kd:=Pos.K) (xs:=S) (v:=v5.1) rfl trivial rfl (mem_at 0 rfl) underlying257<|mv0 rfl rfl<|.fin ?_
  refine WP.gh (l':=fun _:Unit=>[own strK nilV.1 [],own Pos.K v5.1 S,mpo Value.string DNode.O v0_0.1 a0.fnodes,blk b0_ 159 [vS a0.froom,eq v0_0.1]]++F) (gh_of (st_nil strK none)) (fun _ _=>?_)
  refine WP.block ?_
  refine WP.weak (E':=(fun b:Nat×OV=>[(8,eq b.2.1),(35,eq v5.1),(36,vI (S.length:Int)),(37,vI (b.1:Int))]) (0,nilV)) (weak_cons rfl (weak_cons rfl (weak_cons rfl (weak_cons rfl weak_nil)))) (WP.loop (β:=Nat×OV) (fun k b=>b.1+k=S.length) (fun b=>[(8,eq b.2.1),(35,eq v5.1),(36,vI (S.length:Int)),(37,vI (b.1:Int))]) (fun b=>[own strK b.2.1 ((S.take b.1).map (·.fID)),own Pos.K v5.1 S,mpo Value.string DNode.O v0_0.1 a0.fnodes,blk b0_ 159 [vS a0.froom,eq v0_0.1]]++F) ?_ (k:=S.length) (b:=(0,nilV)) (Nat.zero_add _))
  rintro k ⟨j,v8⟩ hk
  replace hk:j+k=S.length:=hk
  refine WP.seq<|rg 1 0<|bn0 rfl rfl rfl run_lt<|.fin<|WP.seq<|WP.cond rfl (fun c2=>WP.skip ?_) (fun c2=>WP.exit ?_)
  rotate_left
  · have c3:¬ ((j:Int)<(S.length:Int)):=of_decide_eq_false c2
    have e3:S.take j=S:=List.take_of_length_le (by omega)
    change ∀ R a w,R0.le R→Agr _ R a _→St R ([own strK v8.1 ((S.take j).map (·.fID)),own Pos.K v5.1 S,mpo Value.string DNode.O v0_0.1 a0.fnodes,blk b0_ 159 [vS a0.froom,eq v0_0.1]]++F) w→_
    rw [e3]
    exact Jn.mk v8 trivial (weak_cons rfl weak_nil) (List.Perm.refl _)
  have c3:(j:Int)<(S.length:Int):=of_decide_eq_true c2
  have hj:j<S.length:=by omega
  refine WP.seq<|WP.block<|WP.seq<|rg 4 12<|Dv.ixw rfl trivial rfl (mem_at 1 rfl) rfl underlying257 underlying226 c226 (by omega) c3<|Dv.ldws (j:=j) (f:=0) rfl trivial rfl (mem_at 1 rfl) hj underlying226 rfl c226 (Nat.le_of_ble_eq_true rfl)<|al rfl trivial zc226 nofun fun b=>sx 0 rfl trivial rfl rfl cA sz226 rfl rfl rfl nofun<|.fin ?_
  have hbd:((S.take j).map (·.fID)).length+([(S.getD j default).fID]:List ByteArray).length≤9223372036854775807∧(((S.take j).map (·.fID)).length+([(S.getD j default).fID]:List ByteArray).length)*16≤140737488355328:=by rw [List.length_singleton,List.length_map,List.length_take]; omega
  refine rg 6 16<|mv0 rfl rfl<|fb rfl trivial rfl fa226_1<|ld 0 rfl trivial rfl sc9 rfl rfl<|Dv.lit strK ([(S.getD j default).fID]:List ByteArray) (css:=[[vS ((S.getD j default).fID)]]) rfl trivial underlying53 underlying9 c9 z9 rfl (by decide) (by decide) rfl ⟨(cells_one (one_eq rfl)),trivial⟩ rfl rfl rfl<|ap strK 1 ([(S.getD j default).fID]:List ByteArray) src_sl underlying53 (.inr ⟨_,underlying53⟩) inf9 hbd nofun fun v9=>as0 rfl rfl<|.fin ?_
  refine WP.gh (l':=fun _:Unit=>[own strK v9.1 ((S.take j).map (·.fID)++([(S.getD j default).fID]:List ByteArray)),own Pos.K v5.1 S,mpo Value.string DNode.O v0_0.1 a0.fnodes,blk b0_ 159 [vS a0.froom,eq v0_0.1]]++F) (gh_of (st_selgn 5 [0,1,2,3,4] 1 (by kernel_rfl) rfl rfl)) (fun _ _=>?_)
  have e4:(S.take j).map (·.fID)++([(S.getD j default).fID]:List ByteArray)=(S.take (j+1)).map (·.fID):=by rw [List.take_add_one,List.map_append,List.getD_eq_getElem?_getD,List.getElem?_eq_getElem hj]; rfl
  rw [e4]
  refine rg 2 0<|bn0 rfl rfl rfl (run_addn (a:=j) (b:=1) (by omega))<|mv0 rfl rfl<|.fin ?_
  exact Back.mk (k-1) (j+1,v9) (by omega) (by show j+1+(k-1)=S.length; omega) (weak_cons rfl (weak_cons rfl (weak_cons rfl (weak_cons rfl weak_nil)))) (List.Perm.refl _)
end Go.Proofs.YtmmaijneehmbgaaGreat
