import Derived.Test.YtelcbdmigiacpaaGreatZMir
import Derived.Test.YtelcbdmigiacpaaGreatZShelf
set_option linter.all false
set_option maxRecDepth 10000
set_option maxHeartbeats 20000000
namespace Go.Proofs.YtelcbdmigiacpaaGreat
open Go Go.Sp
theorem r01_Few.c {a0:ByteArray} {a1:Int} {r:ByteArray} (h:r01_Few.f a0 a1 = some r):Pt Tryz.prog 5 [vS a0,vI a1] (vS r):=by
 unfold r01_Few.f at h
 refine pb Tryz.func5 Tryz.ntmps5 h fun R0 F H=>?_
 refine WP.seq<|rg 1 0<|as0 rfl rfl<|.fin<|WP.seq<|WP.seq<|rg 4 0<|mv0 rfl rfl<|Dv.lens rfl trivial rfl Tryz.underlying9<|mv0 rfl rfl<|bn0 rfl rfl rfl run_gt<|.fin<|cd H rfl (fun _ H=>?_) (fun _ H=>?_)
 rotate_left
 ·
  refine WP.skip<|WP.seq<|rg 2 0<|mv0 rfl rfl<|as0 rfl rfl<|.fin ?_
  cases H.out; exact r0 i2 rfl (.cons (res_tmp rfl) .nil)
 refine WP.seq<|rg 4 0<|mv0 rfl rfl<|mv0 rfl rfl<|gr H fun g2 H=>Dv.sss rfl trivial rfl Tryz.underlying9 bdE_none (bdE_some rfl g2.1) g2.2.1 g2.2.2<|as0 rfl rfl<|.fin ?_
 cases H.out; exact r0 i2 rfl (.cons (res_tmp rfl) .nil)
theorem name_small.c {a0:Int} {r:Bool} (h:name_small.f a0 = some r):Pt Tryz.prog 56 [eq (.int .u8 a0)] (vB r):=by
 unfold name_small.f at h
 refine pb Tryz.func56 Tryz.ntmps56 h fun R0 F H=>?_
 refine WP.seq<|rg 1 0<|as0 rfl rfl<|.fin<|WP.seq<|rg 15 0<|mv0 rfl rfl<|bn0 rfl rfl rfl run_ge<|mv0 rfl rfl ?_
 cases c3:decide (97≤a0)
 ·
  have H:=H.cf c3
  refine sk rfl rfl<|sk rfl rfl<|pf0 rfl rfl rfl<|mv0 rfl rfl<|mvg rfl rfl rfl<|bng rfl rfl rfl rfl run_ge<|mvg rfl rfl rfl ?_
  cases c6:decide (48≤a0)
  ·
   have H:=H.cf c6
   refine sk rfl rfl<|sk rfl rfl<|pfg rfl rfl rfl rfl<|pf0 rfl rfl rfl<|as0 rfl rfl<|.fin ?_
   cases H.out; exact r0 i2 rfl (.cons (res_tmp rfl) .nil)
  have H:=H.ct c6
  refine mvg rfl rfl rfl<|bng rfl rfl rfl rfl run_le<|ptg rfl rfl rfl rfl<|pf0 rfl rfl rfl<|as0 rfl rfl<|.fin ?_
  cases H.out; exact r0 i2 rfl (.cons (res_tmp rfl) .nil)
 have H:=H.ct c3
 refine mvg rfl rfl rfl<|bng rfl rfl rfl rfl run_le<|pt0 rfl rfl rfl<|mv0 rfl rfl ?_
 cases c4:decide (a0≤122)
 rotate_left
 ·
  have H:=H.ct c4
  refine sk rfl rfl<|sk rfl rfl<|sk rfl rfl<|sku rfl rfl<|sku rfl rfl<|sk rfl rfl<|pt0 rfl rfl rfl<|as0 rfl rfl<|.fin ?_
  cases H.out; exact r0 i2 rfl (.cons (res_tmp rfl) .nil)
 have H:=H.cf c4
 refine mvg rfl rfl rfl<|bng rfl rfl rfl rfl run_ge<|mvg rfl rfl rfl ?_
 cases c5:decide (48≤a0)
 ·
  have H:=H.cf c5
  refine sk rfl rfl<|sk rfl rfl<|pfg rfl rfl rfl rfl<|pf0 rfl rfl rfl<|as0 rfl rfl<|.fin ?_
  cases H.out; exact r0 i2 rfl (.cons (res_tmp rfl) .nil)
 have H:=H.ct c5
 refine mvg rfl rfl rfl<|bng rfl rfl rfl rfl run_le<|ptg rfl rfl rfl rfl<|pf0 rfl rfl rfl<|as0 rfl rfl<|.fin ?_
 cases H.out; exact r0 i2 rfl (.cons (res_tmp rfl) .nil)
theorem stringslite_IndexByte.c {a0:ByteArray} {a1:Int} {r:Int} (h:stringslite_IndexByte.f a0 a1 = some r):Pt Tryz.prog 221 [vS a0,eq (.int .u8 a1)] (vI r):=by
 unfold stringslite_IndexByte.f at h
 refine pb Tryz.func221 Tryz.ntmps221 h fun R0 F H=>?_
 refine WP.seq<|rg 1 0<|as0 rfl rfl<|.fin<|WP.seq<|rg 4 0<|mv0 rfl rfl<|mv0 rfl rfl<|Dv.cext rfl trivial rfl (xt_index Tryz.func273 (by kernel_rfl) rfl xf273 xg273)<|as0 rfl rfl<|.fin ?_
 cases H.out; exact r0 i2 rfl (.cons (res_tmp rfl) .nil)
theorem strings_IndexByte.c {a0:ByteArray} {a1:Int} {r:Int} (h:strings_IndexByte.f a0 a1 = some r):Pt Tryz.prog 149 [vS a0,eq (.int .u8 a1)] (vI r):=by
 unfold strings_IndexByte.f at h
 refine pb Tryz.func149 Tryz.ntmps149 h fun R0 F H=>?_
 refine WP.seq<|rg 1 0<|as0 rfl rfl<|.fin<|WP.seq<|rg 4 0<|mv0 rfl rfl<|mv0 rfl rfl<|el H fun t7 h8 H=>cl rfl cal221 rfl (stringslite_IndexByte.c h8)<|as0 rfl rfl<|.fin ?_
 cases H.out; exact r0 i2 rfl (.cons (res_tmp rfl) .nil)
theorem name_among_1.c {a0:Int} {c0:ByteArray} {r:Bool} (h:name_among_1.f a0 c0 = some r):Pt Tryz.prog 148 [eq (.int .u8 a0),rp [vS c0]] (vB r):=by
 unfold name_among_1.f at h
 refine pb Tryz.func148 Tryz.ntmps148 h fun R0 F H=>?_
 refine WP.seq<|rg 1 0<|as0 rfl rfl<|.fin<|WP.seq<|rg 9 0<|mv0 rfl rfl<|el H fun t9 h10 H=>cl rfl cal56 rfl (name_small.c h10)<|mv0 rfl rfl ?_
 cases c11:t9
 rotate_left
 ·
  have H:=H.ct c11
  refine sk rfl rfl<|sk rfl rfl<|sk rfl rfl<|sk rfl rfl<|pt0 rfl rfl rfl<|as0 rfl rfl<|.fin ?_
  cases H.out; exact r0 i2 rfl (.cons (res_tmp rfl) .nil)
 have H:=H.cf c11
 refine ldR rfl (gg rfl) rfl sc9 rfl<|mvg rfl rfl rfl<|el H fun t12 h13 H=>Dv.call rfl (gg rfl) cal149 rfl (strings_IndexByte.c h13)<|bng rfl rfl rfl rfl run_ge<|pf0 rfl rfl rfl<|as0 rfl rfl<|.fin ?_
 cases H.out; exact r0 i2 rfl (.cons (res_tmp rfl) .nil)
theorem name_among.c {a0:ByteArray} {r:(Int→Option Bool)} (h:name_among.f a0 = some r):Pt Tryz.prog 89 [vS a0] (fq_uint8_bool r):=by
 unfold name_among.f at h
 refine pb Tryz.func89 Tryz.ntmps89 h fun R0 F H=>?_
 refine WP.seq<|rg 2 1<|Dv.box rfl trivial rfl cE nofun fun b14=>as0 rfl rfl<|.fin<|WP.seq<|rg 2 0<|Dv.gh (gh_frzb (E':=[(0,vS a0),(1,rp [vS a0]),(2,eq .nilFunc)]) (l':=F) 0 rfl (cve_cons rfl cv_id (cve_cons rfl cv_eq (cve_cons rfl cv_id cve_nil))) (all2_app .nil fun _=>cva_id)) (fun _ _=>?_)
 refine Dv.mkf (Q:=fqQ_uint8_bool (fun a0_=>name_among_1.f a0_ a0)) cal148 (by rintro _ _ ⟨a0_,r_,h_,rfl,rfl⟩; exact name_among_1.c h_) rfl trivial rfl rfl<|as0 rfl rfl<|.fin ?_
 cases H.out; exact r0 i2 rfl (.cons (res_tmp rfl) .nil)
theorem name_may.c {k:Nat} {a0:ByteArray} {a1:Int} {r:Bool} (h:name_may.f k a0 a1 = some r):Pt Tryz.prog 55 [vS a0,vI a1] (vB r):=by
 unfold name_may.f at h
 refine pb Tryz.func55 Tryz.ntmps55 h fun R0 F H=>?_
 refine WP.seq<|rg 1 0<|as0 rfl rfl<|.fin<|WP.seq<|rg 7 0<|el H fun t15 h16 H=>cl rfl cal89 rfl (name_among.c h16)<|el H fun t17 h18 H=>cl rfl cal89 rfl (name_among.c h18)<|el H fun t19 h20 H=>cl rfl cal89 rfl (name_among.c h20)<|Dv.blda (qs:=[fq_uint8_bool t15,fq_uint8_bool t17,fq_uint8_bool t19]) (css:=[[fq_uint8_bool t15],[fq_uint8_bool t17],[fq_uint8_bool t19]]) rfl trivial Tryz.underlying195 Tryz.underlying103 c103 z195 rfl ⟨(cells_one one_fnq),⟨(cells_one one_fnq),⟨(cells_one one_fnq),trivial⟩⟩⟩ rfl rfl<|mv0 rfl rfl<|gr H fun g21 H=>Dv.ixa (Kd:=fK_uint8_bool) (xs:=([t15,t17,t19]:List (Int→Option Bool))) rfl trivial rfl rfl rfl Tryz.underlying195 Tryz.underlying103 rfl c103 rfl rfl g21.1 g21.2 rfl<|as0 rfl rfl<|.fin<|WP.seqr H id (fun p22:Int×Bool=>[(0,vS a0)]) (fun p22:Int×Bool=>F) (fun p22 H=>?_) (fun H=>?_)
 ·
  refine WP.seq<|rg 8 0<|mv0 rfl rfl<|bn0 rfl rfl rfl run_sne<|mv0 rfl rfl ?_
  cases c23:!decide (a0 = (⟨#[]⟩:ByteArray))
  ·
   have H:=H.cf c23
   refine sk rfl rfl<|sk rfl rfl<|sk rfl rfl<|pf0 rfl rfl rfl<|as0 rfl rfl<|.fin ?_
   cases H.out; exact r0 i2 rfl (.cons (res_tmp rfl) .nil)
  have H:=H.ct c23
  refine mvg rfl rfl rfl<|Dv.lens rfl (gg rfl) rfl Tryz.underlying9<|bng rfl rfl rfl rfl run_le<|pt0 rfl rfl rfl<|as0 rfl rfl<|.fin ?_
  cases H.out; exact r0 i2 rfl (.cons (res_tmp rfl) .nil)
 refine WP.seq<|rg 3 0<|mv0 rfl rfl<|Dv.lens rfl trivial rfl Tryz.underlying9<|mv0 rfl rfl<|.fin<|WP.block<|wg (sg 0 [] 0) fun _ _=>?_
 refine lp (fun j_ (p31:Int)=>name_may.l0 k a0 a1 t15 t17 t19 j_ p31) 0 H (fun p31=>[(0,vS a0),(5,fq_uint8_bool (fK_uint8_bool.at ([t15,t17,t19]:List (Int→Option Bool)) a1)),(14,vI (a0.size:Int)),(15,vI p31)]) (fun p31=>F) ?_
 rintro j_ x24 H
 rcases j_ with _ | j30
 ·
  exact (Gets.no H).elim
 try dsimp only at H
 rw [name_may.l0] at H
 refine WP.seq<|rg 1 0<|bn0 rfl rfl rfl run_lt<|.fin<|WP.seq<|cd H rfl (fun _ H=>?_) (fun _ H=>?_)
 rotate_left
 ·
  refine WP.exit ?_
  have H:=H.out
  exact jn (x24,decide (x24 < (a0.size:Int))) H
 refine WP.skip<|WP.seq<|WP.block<|WP.seq<|rg 2 0<|mv0 rfl rfl<|as0 rfl rfl<|.fin<|WP.seq<|rg 6 0<|mv0 rfl rfl<|mv0 rfl rfl<|mv0 rfl rfl<|gr H fun g26 H=>Dv.ixs rfl trivial rfl rfl Tryz.underlying9 g26.1 g26.2<|el H fun t27 h28 H=>Dv.callq (ret:=vB t27) rfl trivial rfl rfl ⟨_,_,h28,rfl,rfl⟩<|un0 rfl rfl (run_not _)<|.fin<|cd H rfl (fun _ H=>?_) (fun _ H=>?_)
 rotate_left
 ·
  exact WP.skip<|rg 2 0<|bn0 rfl rfl rfl run_add<|mv0 rfl rfl<|.fin<|bk j30 (w64 (x24 + 1)) H
 refine WP.seq<|rg 1 0<|as0 rfl rfl<|.fin ?_
 have H:=H.outr
 cases H.out; exact r0 i2 rfl (.cons (res_tmp rfl) .nil)
theorem name_Server.c {k:Nat} {a0:ByteArray} {r:Bool} (h:name_Server.f k a0 = some r):Pt Tryz.prog 26 [vS a0] (vB r):=by
 unfold name_Server.f at h
 refine pb Tryz.func26 Tryz.ntmps26 h fun R0 F H=>?_
 refine WP.seq<|rg 1 0<|as0 rfl rfl<|.fin<|WP.seq<|rg 16 0<|mv0 rfl rfl<|el H fun t32 h33 H=>cl rfl cal55 rfl (name_may.c h33)<|mv0 rfl rfl ?_
 cases c34:t32
 ·
  have H:=H.cf c34
  refine sk rfl rfl<|sk rfl rfl<|sk rfl rfl<|pf0 rfl rfl rfl<|mv0 rfl rfl<|sk rfl rfl<|sk rfl rfl<|sk rfl rfl<|sk rfl rfl<|sk rfl rfl<|sk rfl rfl<|pf0 rfl rfl rfl<|as0 rfl rfl<|.fin ?_
  cases H.out; exact r0 i2 rfl (.cons (res_tmp rfl) .nil)
 have H:=H.ct c34
 refine mvg rfl rfl rfl<|gr H fun g35 H=>Dv.ixs rfl (gg rfl) rfl rfl Tryz.underlying9 g35.1 g35.2<|el H fun t36 h37 H=>Dv.call rfl (gg rfl) cal56 rfl (name_small.c h37)<|pt0 rfl rfl rfl<|mv0 rfl rfl ?_
 cases c38:t36
 ·
  have H:=H.cf c38
  refine sk rfl rfl<|sk rfl rfl<|sk rfl rfl<|sk rfl rfl<|sk rfl rfl<|sk rfl rfl<|pf0 rfl rfl rfl<|as0 rfl rfl<|.fin ?_
  cases H.out; exact r0 i2 rfl (.cons (res_tmp rfl) .nil)
 have H:=H.ct c38
 refine mvg rfl rfl rfl<|mvg rfl rfl rfl<|Dv.lens rfl (gg rfl) rfl Tryz.underlying9<|bng rfl rfl rfl rfl run_sub<|gr H fun g39 H=>Dv.ixs rfl (gg rfl) rfl rfl Tryz.underlying9 g39.1 g39.2<|el H fun t40 h41 H=>Dv.call rfl (gg rfl) cal56 rfl (name_small.c h41)<|pt0 rfl rfl rfl<|as0 rfl rfl<|.fin ?_
 cases H.out; exact r0 i2 rfl (.cons (res_tmp rfl) .nil)
theorem atomic_Int64_Store.c {b off:Nat} {bT:TypeId} {qs:Cs} {m:Int} (h0:off < qs.length):Tr Tryz.prog 57 [eq (.pointer (some ⟨b,off,none⟩)),vI m] [blk b bT qs] (γ:=Unit) (fun _=>True) (fun _=>tup []) (fun _=>[blk b bT (qs.set off (vI m))]):=by
 exact Tr.body Tryz.func57 (c:=_) rfl Tryz.ntmps57 (Nat.le_of_ble_eq_true rfl) fun R0 F=>WP.reg [(0,false),(1,false),(2,false),(3,false),(4,true)] (by kernel_rfl)<|mv0 rfl rfl<|Dv.nilp rfl trivial rfl<|fb rfl trivial rfl fa135_2<|mv0 rfl rfl<|Dv.cextb (jj:=0) (qs:=qs) rfl trivial rfl (xt_store h0 Tryz.func90 (by kernel_rfl) rfl xf90 xg90) rfl nofun<|.fin<|re rfl () 1 [0] 0 .nil
theorem clock_New.c {a0:Int} {a1:Int} {r:(Option Ctr)×Int} (h:clock_New.f a0 a1 = some r):Tr Tryz.prog 27 [vI a0,vI a1] [] (γ:=OV) (fun _=>True) (fun g=>tup [eq g.1,vI r.2]) (fun g=>[optO Ctr.O g r.1]):=by
 unfold clock_New.f at h
 refine tb Tryz.func27 Tryz.ntmps27 h fun R0 F H=>?_
 refine WP.seq<|rg 2 0<|as0 rfl rfl<|as0 rfl rfl<|.fin<|WP.seq<|WP.seq<|rg 15 0<|mv0 rfl rfl<|bn0 rfl rfl rfl run_lt<|mv0 rfl rfl ?_
 cases c42:decide (a1 < 1)
 rotate_left
 ·
  have H:=H.ct c42
  refine sk rfl rfl<|sk rfl rfl<|pt0 rfl rfl rfl<|mv0 rfl rfl<|sk rfl rfl<|sk rfl rfl<|pt0 rfl rfl rfl<|mv0 rfl rfl<|sk rfl rfl<|sk rfl rfl<|sk rfl rfl<|pt0 rfl rfl rfl<|.fin<|WP.cond rfl (fun _=>?_) nofun
  refine WP.seq<|rg 2 0<|as0 rfl rfl<|as0 rfl rfl<|.fin<|wg (st_nilP (O:=Ctr.O)) fun _ _=>?_
  obtain rfl:=Gets.out H
  exact rt i2 rfl nilP 1 [0] 0 (.cons (res_tmp rfl) (.cons (res_tmp rfl) .nil))
 have H:=H.cf c42
 refine mvg rfl rfl rfl<|bng rfl rfl rfl rfl run_gt<|pf0 rfl rfl rfl<|mv0 rfl rfl ?_
 cases c44:decide (1099511627776 < a1)
 rotate_left
 ·
  have H:=H.ct c44
  refine sk rfl rfl<|sk rfl rfl<|pt0 rfl rfl rfl<|mv0 rfl rfl<|sk rfl rfl<|sk rfl rfl<|sk rfl rfl<|pt0 rfl rfl rfl<|.fin<|WP.cond rfl (fun _=>?_) nofun
  refine WP.seq<|rg 2 0<|as0 rfl rfl<|as0 rfl rfl<|.fin<|wg (st_nilP (O:=Ctr.O)) fun _ _=>?_
  obtain rfl:=Gets.out H
  exact rt i2 rfl nilP 1 [0] 0 (.cons (res_tmp rfl) (.cons (res_tmp rfl) .nil))
 have H:=H.cf c44
 refine mvg rfl rfl rfl<|bng rfl rfl rfl rfl run_lt<|pf0 rfl rfl rfl<|mv0 rfl rfl ?_
 cases c46:decide (a0 < 0)
 rotate_left
 ·
  have H:=H.ct c46
  refine sk rfl rfl<|sk rfl rfl<|sk rfl rfl<|pt0 rfl rfl rfl<|.fin<|WP.cond rfl (fun _=>?_) nofun
  refine WP.seq<|rg 2 0<|as0 rfl rfl<|as0 rfl rfl<|.fin<|wg (st_nilP (O:=Ctr.O)) fun _ _=>?_
  obtain rfl:=Gets.out H
  exact rt i2 rfl nilP 1 [0] 0 (.cons (res_tmp rfl) (.cons (res_tmp rfl) .nil))
 have H:=H.cf c46
 refine mvg rfl rfl rfl<|mvg rfl rfl rfl<|bng rfl rfl rfl rfl run_gt<|pf0 rfl rfl rfl<|.fin<|cd H rfl (fun _ H=>?_) (fun _ H=>?_)
 ·
  refine WP.seq<|rg 2 0<|as0 rfl rfl<|as0 rfl rfl<|.fin<|wg (st_nilP (O:=Ctr.O)) fun _ _=>?_
  obtain rfl:=Gets.out H
  exact rt i2 rfl nilP 1 [0] 0 (.cons (res_tmp rfl) (.cons (res_tmp rfl) .nil))
 refine WP.skip<|WP.seq<|rg 4 4<|mv0 rfl rfl<|Dv.bld (qs:=[vI 0,vI a1]) (css:=[[vI a1]]) rfl trivial Tryz.underlying137 pl137 z137 rfl ⟨(cells_one (one_eq rfl)),trivial⟩ rfl rfl<|Dv.box rfl trivial rfl cA nofun fun b49=>as0 rfl rfl<|.fin<|WP.seq<|rg 5 16<|mv0 rfl rfl<|Dv.nilp rfl trivial rfl<|fb rfl trivial rfl fa137_0<|mv0 rfl rfl<|cx 1 [0] cal57 (atomic_Int64_Store.c (b:=b49) (off:=0) (bT:=137) (qs:=[vI 0,vI a1]) (m:=a0) (Nat.le_of_ble_eq_true rfl)) nofun fun _ _=>?_
 refine .fin<|WP.seq<|rg 3 0<|mv0 rfl rfl<|as0 rfl rfl<|as0 rfl rfl<|.fin<|wg (Ctr.shut (p:=(⟨.pointer (some ⟨b49,0,none⟩),rfl⟩:OV)) (m:=(⟨(⟨a0⟩:AtI),a1⟩:Ctr)) b49 rfl (pm 1 [0])) fun _ _=>?_
 obtain rfl:=Gets.out H
 exact rt i2 rfl (⟨.pointer (some ⟨b49,0,none⟩),rfl⟩:OV) 1 [0] 0 (.cons (res_tmp rfl) (.cons (res_tmp rfl) .nil))
theorem delta_New.c {a0:Int} {a1:Int} {r:(Option DLog)×Int} (h:delta_New.f a0 a1 = some r):Tr Tryz.prog 28 [vI a0,vI a1] [] (γ:=OV) (fun _=>True) (fun g=>tup [eq g.1,vI r.2]) (fun g=>[optO DLog.O g r.1]):=by
 unfold delta_New.f at h
 refine tb Tryz.func28 Tryz.ntmps28 h fun R0 F H=>?_
 refine WP.seq<|rg 2 0<|as0 rfl rfl<|as0 rfl rfl<|.fin<|WP.seq<|rg 8 4<|mv0 rfl rfl<|mv0 rfl rfl<|el H fun t50 h51 H=>cx 0 [] cal27 (clock_New.c h51) nofun fun g52 _=>?_
 refine mv0 rfl rfl<|ex0 rfl trivial rfl rfl<|ex0 rfl trivial rfl rfl<|as0 rfl rfl<|as0 rfl rfl<|.fin<|WP.seq<|WP.seq<|rg 2 0<|mv0 rfl rfl<|bn0 rfl rfl rfl run_ne<|.fin<|cd H rfl (fun _ H=>?_) (fun _ H=>?_)
 ·
  refine WP.seq<|rg 3 0<|mv0 rfl rfl<|as0 rfl rfl<|as0 rfl rfl<|.fin<|wg (st_nilP (O:=DLog.O)) fun _ _=>?_
  obtain rfl:=Gets.out H
  exact rt i2 rfl nilP 2 [1,0] 1 (.cons (res_tmp rfl) (.cons (res_tmp rfl) .nil))
 refine WP.skip<|WP.seq<|rg 6 10<|mv0 rfl rfl<|Dv.mmk Value.string (fun x:Int=>vI x) rfl trivial nofun (fun v54=>?_)
 refine gr H fun g55 H=>vg (opt_some 1 rfl (isN g55)) fun _ _=>?_
 refine Dv.bld (qs:=[eq g52.1,eq (.slice none 0 0),eq v54.1]) (css:=[[eq g52.1],[eq v54.1]]) rfl trivial Tryz.underlying141 pl141 z141 rfl ⟨(cells_one one_ov),⟨(cells_one one_ov),trivial⟩⟩ rfl rfl<|Dv.box rfl trivial rfl cA nofun fun b56=>as0 rfl rfl<|as0 rfl rfl<|.fin<|wg (st_nil strK none) fun _ _=>?_
 refine wg (DLog.shut (p:=(⟨.pointer (some ⟨b56,0,none⟩),rfl⟩:OV)) (m:=(⟨t50.1.getD default,([]:List ByteArray),([]:List (ByteArray×Int))⟩:DLog)) (b56,g52,nilV,v54) rfl (pm 4 [1,2,0,3])) fun _ _=>?_
 obtain rfl:=Gets.out H
 exact rt i2 rfl (⟨.pointer (some ⟨b56,0,none⟩),rfl⟩:OV) 1 [0] 0 (.cons (res_tmp rfl) (.cons (res_tmp rfl) .nil))
theorem park_New.c {a0:Int} {r:(Option Park)×Int} (h:park_New.f a0 = some r):Tr Tryz.prog 58 [vI a0] [] (γ:=OV) (fun _=>True) (fun g=>tup [eq g.1,vI r.2]) (fun g=>[optO Park.O g r.1]):=by
 unfold park_New.f at h
 refine tb Tryz.func58 Tryz.ntmps58 h fun R0 F H=>?_
 refine WP.seq<|rg 2 0<|as0 rfl rfl<|as0 rfl rfl<|.fin<|WP.seq<|WP.seq<|rg 6 0<|mv0 rfl rfl<|bn0 rfl rfl rfl run_lt<|mv0 rfl rfl ?_
 cases c57:decide (a0 < 1)
 rotate_left
 ·
  have H:=H.ct c57
  refine sk rfl rfl<|sk rfl rfl<|pt0 rfl rfl rfl<|.fin<|WP.cond rfl (fun _=>?_) nofun
  refine WP.seq<|rg 2 0<|as0 rfl rfl<|as0 rfl rfl<|.fin<|wg (st_nilP (O:=Park.O)) fun _ _=>?_
  obtain rfl:=Gets.out H
  exact rt i2 rfl nilP 1 [0] 0 (.cons (res_tmp rfl) (.cons (res_tmp rfl) .nil))
 have H:=H.cf c57
 refine mvg rfl rfl rfl<|bng rfl rfl rfl rfl run_gt<|pf0 rfl rfl rfl<|.fin<|cd H rfl (fun _ H=>?_) (fun _ H=>?_)
 ·
  refine WP.seq<|rg 2 0<|as0 rfl rfl<|as0 rfl rfl<|.fin<|wg (st_nilP (O:=Park.O)) fun _ _=>?_
  obtain rfl:=Gets.out H
  exact rt i2 rfl nilP 1 [0] 0 (.cons (res_tmp rfl) (.cons (res_tmp rfl) .nil))
 refine WP.skip<|WP.seq<|rg 5 4<|mv0 rfl rfl<|Dv.bld (qs:=[vI a0,eq (.slice none 0 0),vI 0]) (css:=[[vI a0]]) rfl trivial Tryz.underlying200 pl200 z200 rfl ⟨(cells_one (one_eq rfl)),trivial⟩ rfl rfl<|Dv.box rfl trivial rfl cA nofun fun b60=>as0 rfl rfl<|as0 rfl rfl<|.fin<|wg (st_nil Edu.K none) fun _ _=>?_
 refine wg (Park.shut (p:=(⟨.pointer (some ⟨b60,0,none⟩),rfl⟩:OV)) (m:=(⟨a0,([]:List Edu),0⟩:Park)) (b60,nilV) rfl (pm 2 [1,0])) fun _ _=>?_
 obtain rfl:=Gets.out H
 exact rt i2 rfl (⟨.pointer (some ⟨b60,0,none⟩),rfl⟩:OV) 1 [0] 0 (.cons (res_tmp rfl) (.cons (res_tmp rfl) .nil))
theorem receipt_New.c {r:RTab} (h:receipt_New.f = some r):Tr Tryz.prog 59 [] [] (γ:=OV) (fun _=>True) (fun g=>eq g.1) (fun g=>[RTab.O g r]):=by
 unfold receipt_New.f at h
 refine tb Tryz.func59 Tryz.ntmps59 h fun R0 F H=>?_
 refine WP.seq<|rg 1 0<|as0 rfl rfl<|.fin<|WP.seq<|rg 4 5<|Dv.mmk RKey.kv (fun x:Pos=>agg (Pos.enc x)) rfl trivial nofun (fun v61=>?_)
 refine Dv.bld (qs:=[eq v61.1]) (css:=[[eq v61.1]]) rfl trivial Tryz.underlying203 pl203 z203 rfl ⟨(cells_one one_ov),trivial⟩ rfl rfl<|Dv.box rfl trivial rfl cA nofun fun b62=>as0 rfl rfl<|.fin<|wg (RTab.shut (p:=(⟨.pointer (some ⟨b62,0,none⟩),rfl⟩:OV)) (m:=(⟨([]:List (RKey×Pos))⟩:RTab)) (b62,v61) rfl (pm 2 [0,1])) fun _ _=>?_
 obtain rfl:=Gets.out H
 exact rt i2 rfl (⟨.pointer (some ⟨b62,0,none⟩),rfl⟩:OV) 1 [0] 0 (.cons (res_tmp rfl) .nil)
theorem marks_New.c {a0:Int} {r:(Option Mks)×Int} (h:marks_New.f a0 = some r):Tr Tryz.prog 29 [vI a0] [] (γ:=OV) (fun _=>True) (fun g=>tup [eq g.1,vI r.2]) (fun g=>[optO Mks.O g r.1]):=by
 unfold marks_New.f at h
 refine tb Tryz.func29 Tryz.ntmps29 h fun R0 F H=>?_
 refine WP.seq<|rg 2 0<|as0 rfl rfl<|as0 rfl rfl<|.fin<|WP.seq<|rg 7 2<|mv0 rfl rfl<|el H fun t63 h64 H=>cx 0 [] cal58 (park_New.c h64) nofun fun g65 _=>?_
 refine mv0 rfl rfl<|ex0 rfl trivial rfl rfl<|ex0 rfl trivial rfl rfl<|as0 rfl rfl<|as0 rfl rfl<|.fin<|WP.seq<|WP.seq<|rg 2 0<|mv0 rfl rfl<|bn0 rfl rfl rfl run_ne<|.fin<|cd H rfl (fun _ H=>?_) (fun _ H=>?_)
 ·
  refine WP.seq<|rg 3 0<|mv0 rfl rfl<|as0 rfl rfl<|as0 rfl rfl<|.fin<|wg (st_nilP (O:=Mks.O)) fun _ _=>?_
  obtain rfl:=Gets.out H
  exact rt i2 rfl nilP 2 [1,0] 1 (.cons (res_tmp rfl) (.cons (res_tmp rfl) .nil))
 refine WP.skip<|WP.seq<|rg 6 9<|el H fun t67 h68 H=>cx 1 [0] cal59 (receipt_New.c h68) nofun fun g69 _=>?_
 refine mv0 rfl rfl<|gr H fun g70 H=>vg (opt_some 1 rfl (isN g70)) fun _ _=>?_
 refine Dv.bld (qs:=[eq g69.1,eq g65.1]) (css:=[[eq g69.1],[eq g65.1]]) rfl trivial Tryz.underlying123 pl123 z123 rfl ⟨(cells_one one_ov),⟨(cells_one one_ov),trivial⟩⟩ rfl rfl<|Dv.box rfl trivial rfl cA nofun fun b71=>as0 rfl rfl<|as0 rfl rfl<|.fin<|wg (Mks.shut (p:=(⟨.pointer (some ⟨b71,0,none⟩),rfl⟩:OV)) (m:=(⟨t67,t63.1.getD default⟩:Mks)) (b71,g69,g65) rfl (pm 3 [0,2,1])) fun _ _=>?_
 obtain rfl:=Gets.out H
 exact rt i2 rfl (⟨.pointer (some ⟨b71,0,none⟩),rfl⟩:OV) 1 [0] 0 (.cons (res_tmp rfl) (.cons (res_tmp rfl) .nil))
theorem seen_New_string.c {a0:Int} {r:(Option SMosOf)×Int} (h:seen_New_string.f a0 = some r):Tr Tryz.prog 30 [vI a0] [] (γ:=OV) (fun _=>True) (fun g=>tup [eq g.1,vI r.2]) (fun g=>[optO SMosOf.O g r.1]):=by
 unfold seen_New_string.f at h
 refine tb Tryz.func30 Tryz.ntmps30 h fun R0 F H=>?_
 refine WP.seq<|rg 2 0<|as0 rfl rfl<|as0 rfl rfl<|.fin<|WP.seq<|WP.seq<|rg 6 0<|mv0 rfl rfl<|bn0 rfl rfl rfl run_lt<|mv0 rfl rfl ?_
 cases c72:decide (a0 < 1)
 rotate_left
 ·
  have H:=H.ct c72
  refine sk rfl rfl<|sk rfl rfl<|pt0 rfl rfl rfl<|.fin<|WP.cond rfl (fun _=>?_) nofun
  refine WP.seq<|rg 2 0<|as0 rfl rfl<|as0 rfl rfl<|.fin<|wg (st_nilP (O:=SMosOf.O)) fun _ _=>?_
  obtain rfl:=Gets.out H
  exact rt i2 rfl nilP 1 [0] 0 (.cons (res_tmp rfl) (.cons (res_tmp rfl) .nil))
 have H:=H.cf c72
 refine mvg rfl rfl rfl<|bng rfl rfl rfl rfl run_gt<|pf0 rfl rfl rfl<|.fin<|cd H rfl (fun _ H=>?_) (fun _ H=>?_)
 ·
  refine WP.seq<|rg 2 0<|as0 rfl rfl<|as0 rfl rfl<|.fin<|wg (st_nilP (O:=SMosOf.O)) fun _ _=>?_
  obtain rfl:=Gets.out H
  exact rt i2 rfl nilP 1 [0] 0 (.cons (res_tmp rfl) (.cons (res_tmp rfl) .nil))
 refine WP.skip<|WP.seq<|rg 6 10<|mv0 rfl rfl<|Dv.mmk Value.string (fun x:List Int=>sl (intK .i64) x) rfl trivial nofun (fun v75=>?_)
 refine Dv.bld (qs:=[vI a0,eq v75.1]) (css:=[[vI a0],[eq v75.1]]) rfl trivial Tryz.underlying147 pl147 z147 rfl ⟨(cells_one (one_eq rfl)),⟨(cells_one one_ov),trivial⟩⟩ rfl rfl<|Dv.box rfl trivial rfl cA nofun fun b76=>as0 rfl rfl<|as0 rfl rfl<|.fin<|wg (SMosOf.shut (p:=(⟨.pointer (some ⟨b76,0,none⟩),rfl⟩:OV)) (m:=(⟨a0,([]:List (ByteArray×(List Int)))⟩:SMosOf)) (b76,v75) rfl (pm 2 [0,1])) fun _ _=>?_
 obtain rfl:=Gets.out H
 exact rt i2 rfl (⟨.pointer (some ⟨b76,0,none⟩),rfl⟩:OV) 1 [0] 0 (.cons (res_tmp rfl) (.cons (res_tmp rfl) .nil))
theorem view_New.c {r:VView} (h:view_New.f = some r):Tr Tryz.prog 31 [] [] (γ:=OV) (fun _=>True) (fun g=>eq g.1) (fun g=>[VView.O g r]):=by
 unfold view_New.f at h
 refine tb Tryz.func31 Tryz.ntmps31 h fun R0 F H=>?_
 refine WP.seq<|rg 1 0<|as0 rfl rfl<|.fin<|WP.seq<|rg 4 5<|Dv.mmk Value.string (fun p:OV=>eq p.1) rfl trivial nofun (fun v77=>?_)
 refine vg (mpo_new DDag.O) fun _ _=>?_
 refine Dv.bld (qs:=[eq v77.1]) (css:=[[eq v77.1]]) rfl trivial Tryz.underlying150 pl150 z150 rfl ⟨(cells_one one_ov),trivial⟩ rfl rfl<|Dv.box rfl trivial rfl cA nofun fun b78=>as0 rfl rfl<|.fin<|wg (VView.shut (p:=(⟨.pointer (some ⟨b78,0,none⟩),rfl⟩:OV)) (m:=(⟨([]:List (ByteArray×DDag))⟩:VView)) (b78,v77) rfl (pm 2 [0,1])) fun _ _=>?_
 obtain rfl:=Gets.out H
 exact rt i2 rfl (⟨.pointer (some ⟨b78,0,none⟩),rfl⟩:OV) 1 [0] 0 (.cons (res_tmp rfl) .nil)
theorem heap_New.c {r:HHeap} (h:heap_New.f = some r):Tr Tryz.prog 60 [] [] (γ:=OV) (fun _=>True) (fun g=>eq g.1) (fun g=>[HHeap.O g r]):=by
 unfold heap_New.f at h
 refine tb Tryz.func60 Tryz.ntmps60 h fun R0 F H=>?_
 refine WP.seq<|rg 1 0<|as0 rfl rfl<|.fin<|WP.seq<|rg 4 5<|Dv.mmk Value.string (fun x:Int=>vI x) rfl trivial nofun (fun v79=>?_)
 refine Dv.bld (qs:=[eq (.slice none 0 0),eq v79.1]) (css:=[[eq v79.1]]) rfl trivial Tryz.underlying206 pl206 z206 rfl ⟨(cells_one one_ov),trivial⟩ rfl rfl<|Dv.box rfl trivial rfl cA nofun fun b80=>as0 rfl rfl<|.fin<|wg (st_nil HEnt.K none) fun _ _=>?_
 refine wg (HHeap.shut (p:=(⟨.pointer (some ⟨b80,0,none⟩),rfl⟩:OV)) (m:=(⟨([]:List HEnt),([]:List (ByteArray×Int))⟩:HHeap)) (b80,nilV,v79) rfl (pm 3 [1,0,2])) fun _ _=>?_
 obtain rfl:=Gets.out H
 exact rt i2 rfl (⟨.pointer (some ⟨b80,0,none⟩),rfl⟩:OV) 1 [0] 0 (.cons (res_tmp rfl) .nil)
theorem typing_New.c {r:TTab} (h:typing_New.f = some r):Tr Tryz.prog 32 [] [] (γ:=OV) (fun _=>True) (fun g=>eq g.1) (fun g=>[TTab.O g r]):=by
 unfold typing_New.f at h
 refine tb Tryz.func32 Tryz.ntmps32 h fun R0 F H=>?_
 refine WP.seq<|rg 1 0<|as0 rfl rfl<|.fin<|WP.seq<|rg 4 5<|el H fun t81 h82 H=>cx 0 [] cal60 (heap_New.c h82) nofun fun g83 _=>?_
 refine Dv.bld (qs:=[eq (.slice none 0 0),eq g83.1]) (css:=[[eq g83.1]]) rfl trivial Tryz.underlying154 pl154 z154 rfl ⟨(cells_one one_ov),trivial⟩ rfl rfl<|Dv.box rfl trivial rfl cA nofun fun b84=>as0 rfl rfl<|.fin<|wg (st_nil Edu.K none) fun _ _=>?_
 refine wg (TTab.shut (p:=(⟨.pointer (some ⟨b84,0,none⟩),rfl⟩:OV)) (m:=(⟨([]:List Edu),t81⟩:TTab)) (b84,nilV,g83) rfl (pm 3 [1,0,2])) fun _ _=>?_
 obtain rfl:=Gets.out H
 exact rt i2 rfl (⟨.pointer (some ⟨b84,0,none⟩),rfl⟩:OV) 1 [0] 0 (.cons (res_tmp rfl) .nil)
theorem presence_New.c {r:PTab} (h:presence_New.f = some r):Tr Tryz.prog 33 [] [] (γ:=OV) (fun _=>True) (fun g=>eq g.1) (fun g=>[PTab.O g r]):=by
 unfold presence_New.f at h
 refine tb Tryz.func33 Tryz.ntmps33 h fun R0 F H=>?_
 refine WP.seq<|rg 1 0<|as0 rfl rfl<|.fin<|WP.seq<|rg 4 5<|el H fun t85 h86 H=>cx 0 [] cal60 (heap_New.c h86) nofun fun g87 _=>?_
 refine Dv.bld (qs:=[eq (.slice none 0 0),eq g87.1]) (css:=[[eq g87.1]]) rfl trivial Tryz.underlying156 pl156 z156 rfl ⟨(cells_one one_ov),trivial⟩ rfl rfl<|Dv.box rfl trivial rfl cA nofun fun b88=>as0 rfl rfl<|.fin<|wg (st_nil Edu.K none) fun _ _=>?_
 refine wg (PTab.shut (p:=(⟨.pointer (some ⟨b88,0,none⟩),rfl⟩:OV)) (m:=(⟨([]:List Edu),t85⟩:PTab)) (b88,nilV,g87) rfl (pm 3 [1,0,2])) fun _ _=>?_
 obtain rfl:=Gets.out H
 exact rt i2 rfl (⟨.pointer (some ⟨b88,0,none⟩),rfl⟩:OV) 1 [0] 0 (.cons (res_tmp rfl) .nil)
theorem server_New.c {k:Nat} {a0:ByteArray} {a1:Int} {a2:Int} {r:(Option SSelTicStaAllComSen)×Int} (h:server_New.f k a0 a1 a2 = some r):Tr Tryz.prog 6 [vS a0,vI a1,vI a2] [] (γ:=OV) (fun _=>True) (fun g=>tup [eq g.1,vI r.2]) (fun g=>[optO SSelTicStaAllComSen.O g r.1]):=by
 unfold server_New.f at h
 refine tb Tryz.func6 Tryz.ntmps6 h fun R0 F H=>?_
 refine WP.seq<|rg 2 0<|as0 rfl rfl<|as0 rfl rfl<|.fin<|WP.seq<|WP.seq<|rg 3 0<|mv0 rfl rfl<|el H fun t89 h90 H=>cl rfl cal26 rfl (name_Server.c h90)<|un0 rfl rfl (run_not _)<|.fin<|cd H rfl (fun _ H=>?_) (fun _ H=>?_)
 ·
  refine WP.seq<|rg 2 0<|as0 rfl rfl<|as0 rfl rfl<|.fin<|wg (st_nilP (O:=SSelTicStaAllComSen.O)) fun _ _=>?_
  obtain rfl:=Gets.out H
  exact rt i2 rfl nilP 1 [0] 0 (.cons (res_tmp rfl) (.cons (res_tmp rfl) .nil))
 refine WP.skip<|WP.seq<|rg 7 2<|mv0 rfl rfl<|el H fun t92 h93 H=>cx 0 [] cal27 (clock_New.c h93) nofun fun g94 _=>?_
 refine mv0 rfl rfl<|ex0 rfl trivial rfl rfl<|ex0 rfl trivial rfl rfl<|as0 rfl rfl<|as0 rfl rfl<|.fin<|WP.seq<|WP.seq<|rg 2 0<|mv0 rfl rfl<|bn0 rfl rfl rfl run_ne<|.fin<|cd H rfl (fun _ H=>?_) (fun _ H=>?_)
 ·
  refine WP.seq<|rg 3 0<|mv0 rfl rfl<|as0 rfl rfl<|as0 rfl rfl<|.fin<|wg (st_nilP (O:=SSelTicStaAllComSen.O)) fun _ _=>?_
  obtain rfl:=Gets.out H
  exact rt i2 rfl nilP 2 [1,0] 1 (.cons (res_tmp rfl) (.cons (res_tmp rfl) .nil))
 refine WP.skip<|WP.seq<|rg 7 2<|mv0 rfl rfl<|el H fun t96 h97 H=>cx 1 [0] cal28 (delta_New.c h97) nofun fun g98 _=>?_
 refine mv0 rfl rfl<|ex0 rfl trivial rfl rfl<|ex0 rfl trivial rfl rfl<|as0 rfl rfl<|as0 rfl rfl<|.fin<|WP.seq<|WP.seq<|rg 2 0<|mv0 rfl rfl<|bn0 rfl rfl rfl run_ne<|.fin<|cd H rfl (fun _ H=>?_) (fun _ H=>?_)
 ·
  refine WP.seq<|rg 3 0<|mv0 rfl rfl<|as0 rfl rfl<|as0 rfl rfl<|.fin<|wg (st_nilP (O:=SSelTicStaAllComSen.O)) fun _ _=>?_
  obtain rfl:=Gets.out H
  exact rt i2 rfl nilP 3 [1,2,0] 2 (.cons (res_tmp rfl) (.cons (res_tmp rfl) .nil))
 refine WP.skip<|WP.seq<|rg 6 1<|el H fun t100 h101 H=>cx 2 [0,1] cal27 (clock_New.c h101) nofun fun g102 _=>?_
 refine mv0 rfl rfl<|ex0 rfl trivial rfl rfl<|ex0 rfl trivial rfl rfl<|as0 rfl rfl<|as0 rfl rfl<|.fin<|WP.seq<|rg 6 1<|el H fun t103 h104 H=>cx 3 [0,1,2] cal29 (marks_New.c h104) nofun fun g105 _=>?_
 refine mv0 rfl rfl<|ex0 rfl trivial rfl rfl<|ex0 rfl trivial rfl rfl<|as0 rfl rfl<|as0 rfl rfl<|.fin<|WP.seq<|rg 6 1<|el H fun t106 h107 H=>cx 4 [0,1,2,3] cal30 (seen_New_string.c h107) nofun fun g108 _=>?_
 refine mv0 rfl rfl<|ex0 rfl trivial rfl rfl<|ex0 rfl trivial rfl rfl<|as0 rfl rfl<|as0 rfl rfl<|.fin<|WP.seq<|rg 15 5224<|mv0 rfl rfl<|mv0 rfl rfl<|mv0 rfl rfl<|el H fun t109 h110 H=>cx 5 [0,1,2,3,4] cal31 (view_New.c h110) nofun fun g111 _=>?_
 refine mv0 rfl rfl<|el H fun t112 h113 H=>cx 6 [0,1,2,3,4,5] cal32 (typing_New.c h113) nofun fun g114 _=>?_
 refine el H fun t115 h116 H=>cx 7 [0,1,2,3,4,5,6] cal33 (presence_New.c h116) nofun fun g117 _=>?_
 refine mv0 rfl rfl<|gr H fun g118 H=>vg (opt_some 4 rfl (isN g118)) fun _ _=>?_
 refine gr H fun g119 H=>vg (opt_some 6 rfl (isN g119)) fun _ _=>?_
 refine Dv.bld (qs:=[eq g111.1,eq g105.1,eq g114.1,eq g117.1,eq g98.1]) (css:=[[eq g111.1],[eq g105.1],[eq g114.1],[eq g117.1],[eq g98.1]]) rfl trivial Tryz.underlying99 pl99 z99 rfl ⟨(cells_one one_ov),⟨(cells_one one_ov),⟨(cells_one one_ov),⟨(cells_one one_ov),⟨(cells_one one_ov),trivial⟩⟩⟩⟩⟩ rfl rfl<|mv0 rfl rfl<|Dv.mmk Value.string (fun p:OV=>eq p.1) rfl trivial nofun (fun v120=>?_)
 refine vg (mpo_new SSnd.O) fun _ _=>?_
 refine gr H fun g121 H=>vg (opt_some 8 rfl (isN g121)) fun _ _=>?_
 refine gr H fun g122 H=>vg (opt_some 8 rfl (isN g122)) fun _ _=>?_
 refine gr H fun g123 H=>vg (opt_some 8 rfl (isN g123)) fun _ _=>?_
 refine Dv.bld (qs:=[vS a0,eq g94.1,eq g102.1,eq g111.1,eq g105.1,eq g114.1,eq g117.1,eq g98.1,eq g108.1,eq v120.1]) (css:=[[vS a0],[eq g94.1],[eq g102.1],[eq g111.1,eq g105.1,eq g114.1,eq g117.1,eq g98.1],[eq g108.1],[eq v120.1]]) rfl trivial Tryz.underlying102 pl102 z102 rfl ⟨(cells_one (one_eq rfl)),⟨(cells_one one_ov),⟨(cells_one one_ov),⟨(cells_agg (ones_cons one_ov (ones_cons one_ov (ones_cons one_ov (ones_cons one_ov (ones_cons one_ov ones_nil)))))),⟨(cells_one one_ov),⟨(cells_one one_ov),trivial⟩⟩⟩⟩⟩⟩ rfl rfl<|Dv.box rfl trivial rfl cA nofun fun b124=>as0 rfl rfl<|as0 rfl rfl<|.fin<|wg (SSelTicStaAllComSen.shut (p:=(⟨.pointer (some ⟨b124,0,none⟩),rfl⟩:OV)) (m:=(⟨a0,t92.1.getD default,t100.1.getD default,(⟨t109,t103.1.getD default,t112,t115,t96.1.getD default⟩:Src),t106.1.getD default,([]:List (ByteArray×SSnd))⟩:SSelTicStaAllComSen)) (b124,g94,g102,g111,g105,g114,g117,g98,g108,v120) rfl (pm 10 [0,3,2,9,6,8,7,5,1,4])) fun _ _=>?_
 obtain rfl:=Gets.out H
 exact rt i2 rfl (⟨.pointer (some ⟨b124,0,none⟩),rfl⟩:OV) 1 [0] 0 (.cons (res_tmp rfl) (.cons (res_tmp rfl) .nil))
theorem r01_low.c {a0:Int} {r:Bool} (h:r01_low.f a0 = some r):Pt Tryz.prog 34 [eq (.int .u8 a0)] (vB r):=by
 unfold r01_low.f at h
 refine pb Tryz.func34 Tryz.ntmps34 h fun R0 F H=>?_
 refine WP.seq<|rg 1 0<|as0 rfl rfl<|.fin<|WP.seq<|rg 15 0<|mv0 rfl rfl<|bn0 rfl rfl rfl run_ge<|mv0 rfl rfl ?_
 cases c125:decide (97≤a0)
 ·
  have H:=H.cf c125
  refine sk rfl rfl<|sk rfl rfl<|pf0 rfl rfl rfl<|mv0 rfl rfl<|mvg rfl rfl rfl<|bng rfl rfl rfl rfl run_ge<|mvg rfl rfl rfl ?_
  cases c128:decide (48≤a0)
  ·
   have H:=H.cf c128
   refine sk rfl rfl<|sk rfl rfl<|pfg rfl rfl rfl rfl<|pf0 rfl rfl rfl<|as0 rfl rfl<|.fin ?_
   cases H.out; exact r0 i2 rfl (.cons (res_tmp rfl) .nil)
  have H:=H.ct c128
  refine mvg rfl rfl rfl<|bng rfl rfl rfl rfl run_le<|ptg rfl rfl rfl rfl<|pf0 rfl rfl rfl<|as0 rfl rfl<|.fin ?_
  cases H.out; exact r0 i2 rfl (.cons (res_tmp rfl) .nil)
 have H:=H.ct c125
 refine mvg rfl rfl rfl<|bng rfl rfl rfl rfl run_le<|pt0 rfl rfl rfl<|mv0 rfl rfl ?_
 cases c126:decide (a0≤122)
 rotate_left
 ·
  have H:=H.ct c126
  refine sk rfl rfl<|sk rfl rfl<|sk rfl rfl<|sku rfl rfl<|sku rfl rfl<|sk rfl rfl<|pt0 rfl rfl rfl<|as0 rfl rfl<|.fin ?_
  cases H.out; exact r0 i2 rfl (.cons (res_tmp rfl) .nil)
 have H:=H.cf c126
 refine mvg rfl rfl rfl<|bng rfl rfl rfl rfl run_ge<|mvg rfl rfl rfl ?_
 cases c127:decide (48≤a0)
 ·
  have H:=H.cf c127
  refine sk rfl rfl<|sk rfl rfl<|pfg rfl rfl rfl rfl<|pf0 rfl rfl rfl<|as0 rfl rfl<|.fin ?_
  cases H.out; exact r0 i2 rfl (.cons (res_tmp rfl) .nil)
 have H:=H.ct c127
 refine mvg rfl rfl rfl<|bng rfl rfl rfl rfl run_le<|ptg rfl rfl rfl rfl<|pf0 rfl rfl rfl<|as0 rfl rfl<|.fin ?_
 cases H.out; exact r0 i2 rfl (.cons (res_tmp rfl) .nil)
theorem r01_Server.c {k:Nat} {a0:ByteArray} {r:Bool} (h:r01_Server.f k a0 = some r):Pt Tryz.prog 7 [vS a0] (vB r):=by
 unfold r01_Server.f at h
 refine pb Tryz.func7 Tryz.ntmps7 h fun R0 F H=>?_
 refine WP.seq<|rg 1 0<|as0 rfl rfl<|.fin<|WP.seqr H id (fun p129:Int×Bool=>[(0,vS a0)]) (fun p129:Int×Bool=>F) (fun p129 H=>?_) (fun H=>?_)
 ·
  refine WP.seq<|rg 9 0<|mv0 rfl rfl<|Dv.lens rfl trivial rfl Tryz.underlying9<|bn0 rfl rfl rfl run_gt<|mv0 rfl rfl ?_
  cases c130:decide (0 < (a0.size:Int))
  ·
   have H:=H.cf c130
   refine sk rfl rfl<|sk rfl rfl<|sk rfl rfl<|pf0 rfl rfl rfl<|as0 rfl rfl<|.fin ?_
   cases H.out; exact r0 i2 rfl (.cons (res_tmp rfl) .nil)
  have H:=H.ct c130
  refine mvg rfl rfl rfl<|Dv.lens rfl (gg rfl) rfl Tryz.underlying9<|bng rfl rfl rfl rfl run_lt<|pt0 rfl rfl rfl<|as0 rfl rfl<|.fin ?_
  cases H.out; exact r0 i2 rfl (.cons (res_tmp rfl) .nil)
 refine WP.seq<|rg 1 0<|as0 rfl rfl<|.fin<|WP.block<|wg (sg 0 [] 0) fun _ _=>?_
 refine lp (fun j_ (p154:Int)=>r01_Server.l0 k a0 j_ p154) 0 H (fun p154=>[(0,vS a0),(3,vI p154)]) (fun p154=>F) ?_
 rintro j_ x131 H
 rcases j_ with _ | j153
 ·
  exact (Gets.no H).elim
 try dsimp only at H
 rw [r01_Server.l0] at H
 refine WP.seq<|WP.seq<|rg 4 0<|mv0 rfl rfl<|mv0 rfl rfl<|Dv.lens rfl trivial rfl Tryz.underlying9<|bn0 rfl rfl rfl run_lt<|.fin<|cd H rfl (fun _ H=>?_) (fun _ H=>?_)
 rotate_left
 ·
  refine WP.exit ?_
  have H:=H.out
  exact jn (x131,decide (x131 < (a0.size:Int))) H
 refine WP.skip<|WP.seq<|WP.block<|WP.seq<|rg 5 0<|mv0 rfl rfl<|mv0 rfl rfl<|gr H fun g133 H=>Dv.ixs rfl trivial rfl rfl Tryz.underlying9 g133.1 g133.2<|el H fun t134 h135 H=>cl rfl cal34 rfl (r01_low.c h135)<|as0 rfl rfl<|.fin<|WP.seq<|rg 22 0<|mv0 rfl rfl<|bn0 rfl rfl rfl run_gt<|mv0 rfl rfl ?_
 cases c136:decide (0 < x131)
 ·
  have H:=H.cf c136
  refine sk rfl rfl<|sk rfl rfl<|sk rfl rfl<|sk rfl rfl<|sk rfl rfl<|pf0 rfl rfl rfl<|mv0 rfl rfl<|sk rfl rfl<|sk rfl rfl<|sk rfl rfl<|sk rfl rfl<|sk rfl rfl<|sku rfl rfl<|sku rfl rfl<|sku rfl rfl<|sku rfl rfl<|sk rfl rfl<|pf0 rfl rfl rfl<|as0 rfl rfl<|.fin<|WP.seq<|rg 6 0<|mv0 rfl rfl<|un0 rfl rfl (run_not _)<|mv0 rfl rfl ?_
  cases c150:!t134
  ·
   have H:=H.cf c150
   refine sk rfl rfl<|sk rfl rfl<|pf0 rfl rfl rfl<|.fin<|WP.cond rfl nofun (fun _=>?_)
   exact WP.skip<|rg 3 0<|mv0 rfl rfl<|bn0 rfl rfl rfl run_add<|as0 rfl rfl<|.fin<|bk j153 (w64 (x131 + 1)) H
  have H:=H.ct c150
  refine mvg rfl rfl rfl<|ung rfl rfl rfl (run_not _)<|pt0 rfl rfl rfl<|.fin<|WP.cond rfl (fun _=>?_) nofun
  refine WP.seq<|rg 1 0<|as0 rfl rfl<|.fin ?_
  have H:=H.outr
  cases H.out; exact r0 i2 rfl (.cons (res_tmp rfl) .nil)
 have H:=H.ct c136
 refine mvg rfl rfl rfl<|mvg rfl rfl rfl<|Dv.lens rfl (gg rfl) rfl Tryz.underlying9<|bng rfl rfl rfl rfl run_sub<|bng rfl rfl rfl rfl run_lt<|pt0 rfl rfl rfl<|mv0 rfl rfl ?_
 cases c137:decide (x131 < (w64 ((a0.size:Int) - 1)))
 ·
  have H:=H.cf c137
  refine sk rfl rfl<|sk rfl rfl<|sk rfl rfl<|sk rfl rfl<|sk rfl rfl<|sku rfl rfl<|sku rfl rfl<|sku rfl rfl<|sku rfl rfl<|sk rfl rfl<|pf0 rfl rfl rfl<|as0 rfl rfl<|.fin<|WP.seq<|rg 6 0<|mv0 rfl rfl<|un0 rfl rfl (run_not _)<|mv0 rfl rfl ?_
  cases c147:!t134
  ·
   have H:=H.cf c147
   refine sk rfl rfl<|sk rfl rfl<|pf0 rfl rfl rfl<|.fin<|WP.cond rfl nofun (fun _=>?_)
   exact WP.skip<|rg 3 0<|mv0 rfl rfl<|bn0 rfl rfl rfl run_add<|as0 rfl rfl<|.fin<|bk j153 (w64 (x131 + 1)) H
  have H:=H.ct c147
  refine mvg rfl rfl rfl<|ung rfl rfl rfl (run_not _)<|pt0 rfl rfl rfl<|.fin<|WP.cond rfl (fun _=>?_) nofun
  refine WP.seq<|rg 1 0<|as0 rfl rfl<|.fin ?_
  have H:=H.outr
  cases H.out; exact r0 i2 rfl (.cons (res_tmp rfl) .nil)
 have H:=H.ct c137
 refine mvg rfl rfl rfl<|mvg rfl rfl rfl<|gr H fun g138 H=>Dv.ixs rfl (gg rfl) rfl rfl Tryz.underlying9 g138.1 g138.2<|bng rfl rfl rfl rfl run_eq<|mvg rfl rfl rfl ?_
 cases c139:((bt a0 x131) == 46)
 rotate_left
 ·
  have H:=H.ct c139
  refine sk rfl rfl<|sk rfl rfl<|sk rfl rfl<|sk rfl rfl<|ptg rfl rfl rfl rfl<|pt0 rfl rfl rfl<|as0 rfl rfl<|.fin<|WP.seq<|rg 6 0<|mv0 rfl rfl<|un0 rfl rfl (run_not _)<|mv0 rfl rfl ?_
  cases c140:!t134
  ·
   have H:=H.cf c140
   refine sk rfl rfl<|sk rfl rfl<|pf0 rfl rfl rfl<|.fin<|WP.cond rfl nofun (fun _=>?_)
   exact WP.skip<|rg 3 0<|mv0 rfl rfl<|bn0 rfl rfl rfl run_add<|as0 rfl rfl<|.fin<|bk j153 (w64 (x131 + 1)) H
  have H:=H.ct c140
  refine mvg rfl rfl rfl<|ung rfl rfl rfl (run_not _)<|pt0 rfl rfl rfl<|.fin<|WP.cond rfl nofun (fun _=>?_)
  exact WP.skip<|rg 3 0<|mv0 rfl rfl<|bn0 rfl rfl rfl run_add<|as0 rfl rfl<|.fin<|bk j153 (w64 (x131 + 1)) H
 have H:=H.cf c139
 refine mvg rfl rfl rfl<|mvg rfl rfl rfl<|gr H fun g143 H=>Dv.ixs rfl (gg rfl) rfl rfl Tryz.underlying9 g143.1 g143.2<|bng rfl rfl rfl rfl run_eq<|pfg rfl rfl rfl rfl<|pt0 rfl rfl rfl<|as0 rfl rfl<|.fin<|WP.seq<|rg 6 0<|mv0 rfl rfl<|un0 rfl rfl (run_not _)<|mv0 rfl rfl ?_
 cases c144:!t134
 ·
  have H:=H.cf c144
  refine sk rfl rfl<|sk rfl rfl<|pf0 rfl rfl rfl<|.fin<|WP.cond rfl nofun (fun _=>?_)
  exact WP.skip<|rg 3 0<|mv0 rfl rfl<|bn0 rfl rfl rfl run_add<|as0 rfl rfl<|.fin<|bk j153 (w64 (x131 + 1)) H
 have H:=H.ct c144
 refine mvg rfl rfl rfl<|ung rfl rfl rfl (run_not _)<|pt0 rfl rfl rfl<|.fin<|cd H rfl (fun _ H=>?_) (fun _ H=>?_)
 rotate_left
 ·
  exact WP.skip<|rg 3 0<|mv0 rfl rfl<|bn0 rfl rfl rfl run_add<|as0 rfl rfl<|.fin<|bk j153 (w64 (x131 + 1)) H
 refine WP.seq<|rg 1 0<|as0 rfl rfl<|.fin ?_
 have H:=H.outr
 cases H.out; exact r0 i2 rfl (.cons (res_tmp rfl) .nil)
theorem server_Server_Self.c {a0:SSelTicStaAllComSen} {p0_:OV} {r:ByteArray} (h:server_Server_Self.f a0 = some r):Tr Tryz.prog 8 [eq p0_.1] [SSelTicStaAllComSen.O p0_ a0] (γ:=Unit) (fun _=>True) (fun g=>vS r) (fun g=>[SSelTicStaAllComSen.O p0_ a0]):=by
 unfold server_Server_Self.f at h
 refine tb Tryz.func8 Tryz.ntmps8 h fun R0 F H=>?_
 refine WP.seq<|rg 1 0<|as0 rfl rfl<|.fin<|WP.seq<|rg 5 0<|mv0 rfl rfl<|Dv.nilA SSelTicStaAllComSen.nn rfl trivial rfl (mem_at 0 rfl)<|vg (SSelTicStaAllComSen.opn 0 rfl) fun g155 h156=>?_
 refine fp h156 rfl trivial rfl fa102_0<|ld 0 rfl trivial rfl sc9 rfl rfl<|as0 rfl rfl<|.fin<|wg (SSelTicStaAllComSen.shut (p:=p0_) (m:=a0) (g155.1,g155.2.1,g155.2.2.1,g155.2.2.2.1,g155.2.2.2.2.1,g155.2.2.2.2.2.1,g155.2.2.2.2.2.2.1,g155.2.2.2.2.2.2.2.1,g155.2.2.2.2.2.2.2.2.1,g155.2.2.2.2.2.2.2.2.2) h156 (pm 10 [0,1,2,3,4,5,6,7,8,9])) fun _ _=>?_
 cases H.out; exact rt i2 rfl () 1 [0] 0 (.cons (res_tmp rfl) .nil)
theorem atomic_Int64_Load.c {b off:Nat} {bT:TypeId} {qs:Cs} {n:Int} (h0:qs[off]? = some (vI n)):Tr Tryz.prog 61 [eq (.pointer (some ⟨b,off,none⟩))] [blk b bT qs] (γ:=Unit) (fun _=>True) (fun _=>vI n) (fun _=>[blk b bT qs]):=by
 exact Tr.body Tryz.func61 (c:=_) rfl Tryz.ntmps61 (Nat.le_of_ble_eq_true rfl) fun R0 F=>WP.seq<|WP.reg [(0,false)] (by kernel_rfl)<|as0 rfl rfl<|.fin<|WP.seq<|WP.reg [(0,false),(1,false),(2,false),(3,false),(4,false)] (by kernel_rfl)<|mv0 rfl rfl<|Dv.nilp rfl trivial rfl<|fb rfl trivial rfl fa135_2<|Dv.cextr (A:=blk b bT qs) rfl trivial rfl (xt_load h0 Tryz.func91 (by kernel_rfl) rfl xf91 xg91) (mem_at 0 rfl)<|as0 rfl rfl<|.fin<|rt i2 rfl () 1 [0] 0 (.cons (res_tmp rfl) .nil)
theorem clock_Counter_At.c {a0:Ctr} {b0_:Nat} {r:Int} (h:clock_Counter_At.f a0 = some r):Tr Tryz.prog 35 [eq (.pointer (some ⟨b0_,0,none⟩))] [blk b0_ 137 [vI a0.fn.fv,vI a0.fmost]] (γ:=Unit) (fun _=>True) (fun g=>vI r) (fun g=>[blk b0_ 137 [vI a0.fn.fv,vI a0.fmost]]):=by
 unfold clock_Counter_At.f at h
 refine tb Tryz.func35 Tryz.ntmps35 h fun R0 F H=>?_
 refine WP.seq<|rg 1 0<|as0 rfl rfl<|.fin<|WP.seq<|rg 5 0<|mv0 rfl rfl<|Dv.nilp rfl trivial rfl<|fb rfl trivial rfl fa137_0<|cll 1 [0] cal61 (atomic_Int64_Load.c (b:=b0_) (off:=0) (bT:=137) (qs:=[vI a0.fn.fv,vI a0.fmost]) (n:=a0.fn.fv) rfl) ?_
 refine as0 rfl rfl<|.fin ?_
 cases H.out; exact rt i2 rfl () 1 [0] 0 (.cons (res_tmp rfl) .nil)
theorem server_Server_Tick.c {a0:SSelTicStaAllComSen} {p0_:OV} {r:Int} (h:server_Server_Tick.f a0 = some r):Tr Tryz.prog 9 [eq p0_.1] [SSelTicStaAllComSen.O p0_ a0] (γ:=Unit) (fun _=>True) (fun g=>vI r) (fun g=>[SSelTicStaAllComSen.O p0_ a0]):=by
 unfold server_Server_Tick.f at h
 refine tb Tryz.func9 Tryz.ntmps9 h fun R0 F H=>?_
 refine WP.seq<|rg 1 0<|as0 rfl rfl<|.fin<|WP.seq<|rg 6 0<|mv0 rfl rfl<|Dv.nilA SSelTicStaAllComSen.nn rfl trivial rfl (mem_at 0 rfl)<|vg (SSelTicStaAllComSen.opn 0 rfl) fun g157 h158=>?_
 refine fp h158 rfl trivial rfl fa102_1<|ld 0 rfl trivial rfl sc82 rfl rfl<|vg (Ctr.opn 1 rfl) fun g159 h160=>?_
 refine el H fun t161 h162 H=>cll 10 [0,1,2,3,4,5,6,7,8,9] cal35 (Tr.weak (clock_Counter_At.c h162 (b0_:=g159)) (.cons (wk_ptr h160) .nil)) ?_
 refine as0 rfl rfl<|.fin<|wg (Ctr.shut (p:=g157.2.1) (m:=a0.ftick) g159 h160 (pm 10 [0,1,2,3,4,5,6,7,8,9])) fun _ _=>?_
 refine wg (SSelTicStaAllComSen.shut (p:=p0_) (m:=a0) (g157.1,g157.2.1,g157.2.2.1,g157.2.2.2.1,g157.2.2.2.2.1,g157.2.2.2.2.2.1,g157.2.2.2.2.2.2.1,g157.2.2.2.2.2.2.2.1,g157.2.2.2.2.2.2.2.2.1,g157.2.2.2.2.2.2.2.2.2) h158 (pm 10 [1,0,2,3,4,5,6,7,8,9])) fun _ _=>?_
 cases H.out; exact rt i2 rfl () 1 [0] 0 (.cons (res_tmp rfl) .nil)
theorem server_Server_Tick_o.c {m:Ctr} {b:Nat} {qs:Cs} {p:OV} {r:Int} (hq:qs[1]? = some (eq p.1)) (h:server_Server_Tick_o.f m = some r):Tr Tryz.prog 9 [eq (.pointer (some ⟨b,0,none⟩))] [blk b 102 qs,Ctr.O p m] (γ:=Unit) (fun _=>True) (fun g=>vI r) (fun g=>[blk b 102 qs,Ctr.O p m]):=by
 unfold server_Server_Tick_o.f at h
 refine Tr.body Tryz.func9 (c:=_) rfl Tryz.ntmps9 (Nat.le_of_ble_eq_true rfl) fun R0 F=>WP.seq<|rg 1 0<|as0 rfl rfl<|.fin<|WP.seq<|rg 6 0<|mv0 rfl rfl<|Dv.nilp rfl trivial rfl<|fb rfl trivial rfl fa102_1<|ld 0 rfl trivial rfl sc82 rfl ((congrArg (qs[·]?) (Nat.zero_add _)).trans hq)<|vg (Ctr.opn 1 rfl) fun q hb=>?_
 refine cll 2 [0,1] cal35 (Tr.weak (clock_Counter_At.c h (b0_:=q)) (.cons (wk_ptr hb) .nil)) ?_
 refine as0 rfl rfl<|.fin<|WP.gh (l':=fun _:Unit=>[Ctr.O p m,blk b 102 qs]++F) (gh_of (Ctr.shut (p:=p) (m:=m) q hb (pm 2 [0,1]))) fun _ _=>?_
 exact rt i2 rfl () 2 [1,0] 0 (.cons (res_tmp rfl) .nil)
theorem delta_Log_At.c {a0:DLog} {p0_:OV} {r:Int} (h:delta_Log_At.f a0 = some r):Tr Tryz.prog 36 [eq p0_.1] [DLog.O p0_ a0] (γ:=Unit) (fun _=>True) (fun g=>vI r) (fun g=>[DLog.O p0_ a0]):=by
 unfold delta_Log_At.f at h
 refine tb Tryz.func36 Tryz.ntmps36 h fun R0 F H=>?_
 refine WP.seq<|rg 1 0<|as0 rfl rfl<|.fin<|WP.seq<|rg 6 0<|mv0 rfl rfl<|Dv.nilA DLog.nn rfl trivial rfl (mem_at 0 rfl)<|vg (DLog.opn 0 rfl) fun g163 h164=>?_
 refine fp h164 rfl trivial rfl fa141_0<|ld 0 rfl trivial rfl sc82 rfl rfl<|vg (Ctr.opn 1 rfl) fun g165 h166=>?_
 refine el H fun t167 h168 H=>cll 4 [0,1,2,3] cal35 (Tr.weak (clock_Counter_At.c h168 (b0_:=g165)) (.cons (wk_ptr h166) .nil)) ?_
 refine as0 rfl rfl<|.fin<|wg (Ctr.shut (p:=g163.2.1) (m:=a0.fat) g165 h166 (pm 4 [0,1,2,3])) fun _ _=>?_
 refine wg (DLog.shut (p:=p0_) (m:=a0) (g163.1,g163.2.1,g163.2.2.1,g163.2.2.2) h164 (pm 4 [1,0,2,3])) fun _ _=>?_
 cases H.out; exact rt i2 rfl () 1 [0] 0 (.cons (res_tmp rfl) .nil)
theorem server_Server_Pos.c {a0:SSelTicStaAllComSen} {p0_:OV} {r:Int} (h:server_Server_Pos.f a0 = some r):Tr Tryz.prog 10 [eq p0_.1] [SSelTicStaAllComSen.O p0_ a0] (γ:=Unit) (fun _=>True) (fun g=>vI r) (fun g=>[SSelTicStaAllComSen.O p0_ a0]):=by
 unfold server_Server_Pos.f at h
 refine tb Tryz.func10 Tryz.ntmps10 h fun R0 F H=>?_
 refine WP.seq<|rg 1 0<|as0 rfl rfl<|.fin<|WP.seq<|rg 7 32<|mv0 rfl rfl<|Dv.nilA SSelTicStaAllComSen.nn rfl trivial rfl (mem_at 0 rfl)<|vg (SSelTicStaAllComSen.opn 0 rfl) fun g169 h170=>?_
 refine fp h170 rfl trivial rfl fa102_3<|fb rfl trivial rfl fa99_4<|ld 0 rfl trivial rfl sc85 rfl rfl<|el H fun t171 h172 H=>cx 10 [7,0,1,2,3,4,5,6,8,9] cal36 (delta_Log_At.c h172 (p0_:=g169.2.2.2.2.2.2.2.1)) nofun fun _ _=>?_
 refine as0 rfl rfl<|.fin<|wg (SSelTicStaAllComSen.shut (p:=p0_) (m:=a0) (g169.1,g169.2.1,g169.2.2.1,g169.2.2.2.1,g169.2.2.2.2.1,g169.2.2.2.2.2.1,g169.2.2.2.2.2.2.1,g169.2.2.2.2.2.2.2.1,g169.2.2.2.2.2.2.2.2.1,g169.2.2.2.2.2.2.2.2.2) h170 (pm 10 [1,2,3,4,5,6,7,0,8,9])) fun _ _=>?_
 cases H.out; exact rt i2 rfl () 1 [0] 0 (.cons (res_tmp rfl) .nil)
theorem queue_Queue_Len.c {a0:SQue} {v0_0 v0_1:OV} {b0_:Nat} {r:Int} (h:queue_Queue_Len.f a0 = some r):Tr Tryz.prog 62 [eq (.pointer (some ⟨b0_,0,none⟩))] [blk b0_ 211 [vI a0.fmost,eq v0_0.1,eq v0_1.1,vI a0.flost],own EKey.K v0_0.1 a0.fkeys,mp EKey.kv (fun x:Edu=>agg (Edu.enc x)) v0_1.1 a0.fat] (γ:=Unit) (fun _=>True) (fun g=>vI r) (fun g=>[blk b0_ 211 [vI a0.fmost,eq v0_0.1,eq v0_1.1,vI a0.flost],own EKey.K v0_0.1 a0.fkeys,mp EKey.kv (fun x:Edu=>agg (Edu.enc x)) v0_1.1 a0.fat]):=by
 unfold queue_Queue_Len.f at h
 refine tb Tryz.func62 Tryz.ntmps62 h fun R0 F H=>?_
 refine WP.seq<|rg 1 0<|as0 rfl rfl<|.fin<|WP.seq<|rg 6 0<|mv0 rfl rfl<|Dv.nilp rfl trivial rfl<|fb rfl trivial rfl fa211_1<|ld 0 rfl trivial rfl sc208 rfl rfl<|Dv.lenw rfl trivial rfl (mem_at 1 rfl) Tryz.underlying208<|as0 rfl rfl<|.fin ?_
 cases H.out; exact rt i2 rfl () 3 [0,1,2] 0 (.cons (res_tmp rfl) .nil)
theorem sender_Sender_Idle.c {a0:SSnd} {v0_0 v0_1 v0_2 v0_3 v0_4:OV} {b0_ d0_0 d0_1:Nat} {e0_0:v0_0.1 = .pointer (some ⟨d0_0,0,none⟩)} {e0_1:v0_1.1 = .pointer (some ⟨d0_1,0,none⟩)} {r:Bool} (h:sender_Sender_Idle.f a0 = some r):Tr Tryz.prog 37 [eq (.pointer (some ⟨b0_,0,none⟩))] [blk b0_ 161 [eq v0_0.1,vS a0.fself,vS a0.fto,eq v0_1.1,eq v0_2.1],blk d0_0 211 [vI a0.fQueue.fmost,eq v0_3.1,eq v0_4.1,vI a0.fQueue.flost],own EKey.K v0_3.1 a0.fQueue.fkeys,mp EKey.kv (fun x:Edu=>agg (Edu.enc x)) v0_4.1 a0.fQueue.fat,blk d0_1 137 [vI a0.fids.fn.fv,vI a0.fids.fmost],optO Fly.O v0_2 a0.fair] (γ:=Unit) (fun _=>True) (fun g=>vB r) (fun g=>[blk b0_ 161 [eq v0_0.1,vS a0.fself,vS a0.fto,eq v0_1.1,eq v0_2.1],blk d0_0 211 [vI a0.fQueue.fmost,eq v0_3.1,eq v0_4.1,vI a0.fQueue.flost],own EKey.K v0_3.1 a0.fQueue.fkeys,mp EKey.kv (fun x:Edu=>agg (Edu.enc x)) v0_4.1 a0.fQueue.fat,blk d0_1 137 [vI a0.fids.fn.fv,vI a0.fids.fmost],optO Fly.O v0_2 a0.fair]):=by
 unfold sender_Sender_Idle.f at h
 refine tb Tryz.func37 Tryz.ntmps37 h fun R0 F H=>?_
 refine WP.seq<|rg 1 0<|as0 rfl rfl<|.fin<|WP.seq<|rg 14 0<|mv0 rfl rfl<|Dv.nilp rfl trivial rfl<|fb rfl trivial rfl fa161_4<|ld 0 rfl trivial rfl sc159 rfl rfl<|Dv.oeq0 (fun _=>Fly.nn) rfl trivial rfl rfl Tryz.underlying159 (mem_at 5 rfl)<|mv0 rfl rfl ?_
 rcases bem a0.fair.isNone with c173 | c173
 ·
  have H:=H.cf c173
  refine Dv.gh (gh_sh 7 c173 rfl) (fun _ _=>?_)
  refine Dv.gh (gh_sh 8 c173 rfl) (fun _ _=>?_)
  refine sk rfl rfl<|sk rfl rfl<|sk rfl rfl<|sk rfl rfl<|sk rfl rfl<|sk rfl rfl<|pf0 rfl rfl rfl<|as0 rfl rfl<|.fin ?_
  cases H.out; exact rt i2 rfl () 6 [0,1,2,3,4,5] 0 (.cons (res_tmp rfl) .nil)
 have H:=H.ct c173
 refine Dv.gh (gh_sh 7 c173 rfl) (fun _ _=>?_)
 refine Dv.gh (gh_sh 8 c173 rfl) (fun _ _=>?_)
 refine mvg rfl rfl rfl<|Dv.nilp rfl (gg rfl) rfl<|fb rfl (gg rfl) rfl fa161_0<|ld 0 rfl (gg rfl) rfl sc158 rfl rfl<|el H fun t174 h175 H=>cll 6 [1,2,3,0,4,5] cal62 (Tr.weak (queue_Queue_Len.c h175 (b0_:=d0_0) (v0_0:=v0_3) (v0_1:=v0_4)) (.cons (wk_ptr e0_0) .nil)) ?_
 refine bng rfl rfl rfl rfl run_eq<|pt0 rfl rfl rfl<|as0 rfl rfl<|.fin ?_
 cases H.out; exact rt i2 rfl () 6 [0,1,2,3,4,5] 0 (.cons (res_tmp rfl) .nil)
theorem server_Server_Idle.c {a0:SSelTicStaAllComSen} {p0_:OV} {r:Bool} (h:server_Server_Idle.f a0 = some r):Tr Tryz.prog 11 [eq p0_.1] [SSelTicStaAllComSen.O p0_ a0] (γ:=Unit) (fun _=>True) (fun g=>vB r) (fun g=>[SSelTicStaAllComSen.O p0_ a0]):=by
  unfold server_Server_Idle.f at h
  refine tb Tryz.func11 Tryz.ntmps11 h fun R0 F H=>?_
  refine WP.seq ?_
  refine rg 1 0 ?_
  refine Dv.asg rfl trivial rfl ?_
  refine .fin ?_
  obtain ⟨t176,h177,h178⟩:=H
  refine WP.seqj (β:=Unit) (fun _=>t176 = true) (fun _=>[]) (fun _=>[SSelTicStaAllComSen.O p0_ a0]++F) (fun b hb=>?_) ?_
  · replace hb:t176 = true:=hb
    subst hb
    have H:Gets (some true) (fun v=>v = r):=⟨true,rfl,h178⟩
    refine WP.seq ?_
    refine rg 1 0 ?_
    refine Dv.asg rfl trivial rfl ?_
    refine .fin ?_
    obtain rfl:=Gets.out H
    exact WP.retL (fun _ _ h=>h) rfl () trivial (.cons (res_tmp rfl) .nil) rfl (st_sel (L:=[SSelTicStaAllComSen.O p0_ a0]) (F:=F) [0] 0 rfl rfl rfl)
  · refine WP.seq ?_
    refine rg 5 16 ?_
    refine Dv.mv rfl trivial rfl ?_
    refine Dv.nilA SSelTicStaAllComSen.nn rfl trivial rfl (mem_at 0 rfl) ?_
    refine Dv.gh (l':=fun (g179:Nat×OV×OV×OV×OV×OV×OV×OV×OV×OV)=>[blk g179.1 102 [vS a0.fself,eq g179.2.1.1,eq g179.2.2.1.1,eq g179.2.2.2.1.1,eq g179.2.2.2.2.1.1,eq g179.2.2.2.2.2.1.1,eq g179.2.2.2.2.2.2.1.1,eq g179.2.2.2.2.2.2.2.1.1,eq g179.2.2.2.2.2.2.2.2.1.1,eq g179.2.2.2.2.2.2.2.2.2.1],Ctr.O g179.2.1 a0.ftick,Ctr.O g179.2.2.1 a0.fstamps,VView.O g179.2.2.2.1 a0.fall.fView,Mks.O g179.2.2.2.2.1 a0.fall.fMarks,TTab.O g179.2.2.2.2.2.1 a0.fall.fTyping,PTab.O g179.2.2.2.2.2.2.1 a0.fall.fPresence,DLog.O g179.2.2.2.2.2.2.2.1 a0.fall.fLog,SMosOf.O g179.2.2.2.2.2.2.2.2.1 a0.fcome,mpo Value.string SSnd.O g179.2.2.2.2.2.2.2.2.2.1 a0.fsenders]++F) (gh_of (SSelTicStaAllComSen.opn 0 rfl)) (fun g179 h180=>?_)
    refine fp h180 rfl trivial rfl fa102_5 ?_
    refine ld 0 rfl trivial rfl sc100 rfl rfl ?_
    refine Dv.gh (l':=fun z181:List OV=>[mp Value.string (fun p:OV=>eq p.1) g179.2.2.2.2.2.2.2.2.2.1 (zipK a0.fsenders z181),thg SSnd.O a0.fsenders z181,blk g179.1 102 [vS a0.fself,eq g179.2.1.1,eq g179.2.2.1.1,eq g179.2.2.2.1.1,eq g179.2.2.2.2.1.1,eq g179.2.2.2.2.2.1.1,eq g179.2.2.2.2.2.2.1.1,eq g179.2.2.2.2.2.2.2.1.1,eq g179.2.2.2.2.2.2.2.2.1.1,eq g179.2.2.2.2.2.2.2.2.2.1],Ctr.O g179.2.1 a0.ftick,Ctr.O g179.2.2.1 a0.fstamps,VView.O g179.2.2.2.1 a0.fall.fView,Mks.O g179.2.2.2.2.1 a0.fall.fMarks,TTab.O g179.2.2.2.2.2.1 a0.fall.fTyping,PTab.O g179.2.2.2.2.2.2.1 a0.fall.fPresence,DLog.O g179.2.2.2.2.2.2.2.1 a0.fall.fLog,SMosOf.O g179.2.2.2.2.2.2.2.2.1 a0.fcome]++F) (gh_of (mpo_opn 9 rfl)) (fun z181 h182=>?_)
    refine Dv.rgb (jj:=0) rfl trivial rfl rfl Tryz.underlying100 nofun (fun q183=>?_)
    refine .fin ?_
    refine WP.gh (l':=fun _:Unit=>[rng Value.string (fun p:OV=>eq p.1) g179.2.2.2.2.2.2.2.2.2.1 q183.1 (zipK a0.fsenders z181) [],thg SSnd.O a0.fsenders z181,blk g179.1 102 [vS a0.fself,eq g179.2.1.1,eq g179.2.2.1.1,eq g179.2.2.2.1.1,eq g179.2.2.2.2.1.1,eq g179.2.2.2.2.2.1.1,eq g179.2.2.2.2.2.2.1.1,eq g179.2.2.2.2.2.2.2.1.1,eq g179.2.2.2.2.2.2.2.2.1.1,eq g179.2.2.2.2.2.2.2.2.2.1],Ctr.O g179.2.1 a0.ftick,Ctr.O g179.2.2.1 a0.fstamps,VView.O g179.2.2.2.1 a0.fall.fView,Mks.O g179.2.2.2.2.1 a0.fall.fMarks,TTab.O g179.2.2.2.2.2.1 a0.fall.fTyping,PTab.O g179.2.2.2.2.2.2.1 a0.fall.fPresence,DLog.O g179.2.2.2.2.2.2.2.1 a0.fall.fLog,SMosOf.O g179.2.2.2.2.2.2.2.2.1 a0.fcome]++F) (gh_of (ok:=fun _=>True) fun R w k=>⟨(),trivial,k⟩) (fun _ _=>?_)
    refine WP.block ?_
    refine WP.weak (E':=(fun _:List Nat=>[(9,eq q183.1)]) []) (weak_cons rfl weak_nil) (WP.loop (β:=List Nat) (fun kk is=>is.length + kk = a0.fsenders.length∧∀ i∈is,∀ e,a0.fsenders[i]? = some e→sender_Sender_Idle.f e.2 = some true) (fun _=>[(9,eq q183.1)]) (fun is=>[rng Value.string (fun p:OV=>eq p.1) g179.2.2.2.2.2.2.2.2.2.1 q183.1 (zipK a0.fsenders z181) is,thg SSnd.O a0.fsenders z181,blk g179.1 102 [vS a0.fself,eq g179.2.1.1,eq g179.2.2.1.1,eq g179.2.2.2.1.1,eq g179.2.2.2.2.1.1,eq g179.2.2.2.2.2.1.1,eq g179.2.2.2.2.2.2.1.1,eq g179.2.2.2.2.2.2.2.1.1,eq g179.2.2.2.2.2.2.2.2.1.1,eq g179.2.2.2.2.2.2.2.2.2.1],Ctr.O g179.2.1 a0.ftick,Ctr.O g179.2.2.1 a0.fstamps,VView.O g179.2.2.2.1 a0.fall.fView,Mks.O g179.2.2.2.2.1 a0.fall.fMarks,TTab.O g179.2.2.2.2.2.1 a0.fall.fTyping,PTab.O g179.2.2.2.2.2.2.1 a0.fall.fPresence,DLog.O g179.2.2.2.2.2.2.2.1 a0.fall.fLog,SMosOf.O g179.2.2.2.2.2.2.2.2.1 a0.fcome]++F) ?_ (k:=a0.fsenders.length) (b:=[]) ⟨Nat.zero_add _,nofun⟩)
    intro kk is hk
    obtain ⟨hk,hI⟩:=hk
    refine WP.seq<|rg 2 1<|Dv.rgn (jj:=0) rfl trivial rfl rfl nofun (fun z hz=>?_)
    rcases z with _ | j
    · have hz:is.Perm (List.range (zipK a0.fsenders z181).length):=hz
      rw [zipK_len h182.1] at hz
      have hT:t176 = true:=allO_true h177 (fun j e hj=>hI j (hz.mem_iff.2 (List.mem_range.2 (List.getElem?_eq_some_iff.1 hj).1)) e hj)
      refine ex0 rfl trivial rfl rfl<|.fin<|WP.seq<|WP.cond rfl nofun (fun _=>WP.exit ?_)
      refine Dn.gh (l':=fun _:Unit=>[rng Value.string (fun p:OV=>eq p.1) g179.2.2.2.2.2.2.2.2.2.1 q183.1 (zipK a0.fsenders z181) is,thg SSnd.O a0.fsenders z181,blk g179.1 102 [vS a0.fself,eq g179.2.1.1,eq g179.2.2.1.1,eq g179.2.2.2.1.1,eq g179.2.2.2.2.1.1,eq g179.2.2.2.2.2.1.1,eq g179.2.2.2.2.2.2.1.1,eq g179.2.2.2.2.2.2.2.1.1,eq g179.2.2.2.2.2.2.2.2.1.1,eq g179.2.2.2.2.2.2.2.2.2.1],Ctr.O g179.2.1 a0.ftick,Ctr.O g179.2.2.1 a0.fstamps,VView.O g179.2.2.2.1 a0.fall.fView,Mks.O g179.2.2.2.2.1 a0.fall.fMarks,TTab.O g179.2.2.2.2.2.1 a0.fall.fTyping,PTab.O g179.2.2.2.2.2.2.1 a0.fall.fPresence,DLog.O g179.2.2.2.2.2.2.2.1 a0.fall.fLog,SMosOf.O g179.2.2.2.2.2.2.2.2.1 a0.fcome]++F) (gh_of (ok:=fun _=>True) fun R w k=>⟨(),trivial,k⟩) (fun _ _=>?_)
      refine Dn.gh (l':=fun _:Unit=>[mp Value.string (fun p:OV=>eq p.1) g179.2.2.2.2.2.2.2.2.2.1 (zipK a0.fsenders z181),thg SSnd.O a0.fsenders z181,blk g179.1 102 [vS a0.fself,eq g179.2.1.1,eq g179.2.2.1.1,eq g179.2.2.2.1.1,eq g179.2.2.2.2.1.1,eq g179.2.2.2.2.2.1.1,eq g179.2.2.2.2.2.2.1.1,eq g179.2.2.2.2.2.2.2.1.1,eq g179.2.2.2.2.2.2.2.2.1.1,eq g179.2.2.2.2.2.2.2.2.2.1],Ctr.O g179.2.1 a0.ftick,Ctr.O g179.2.2.1 a0.fstamps,VView.O g179.2.2.2.1 a0.fall.fView,Mks.O g179.2.2.2.2.1 a0.fall.fMarks,TTab.O g179.2.2.2.2.2.1 a0.fall.fTyping,PTab.O g179.2.2.2.2.2.2.1 a0.fall.fPresence,DLog.O g179.2.2.2.2.2.2.2.1 a0.fall.fLog,SMosOf.O g179.2.2.2.2.2.2.2.2.1 a0.fcome]++F) (gh_of (st_rge (pm 11 [0,1,2,3,4,5,6,7,8,9,10]))) (fun _ _=>?_)
      refine Dn.gh (l':=fun _:Unit=>[mpo Value.string SSnd.O g179.2.2.2.2.2.2.2.2.2.1 a0.fsenders,blk g179.1 102 [vS a0.fself,eq g179.2.1.1,eq g179.2.2.1.1,eq g179.2.2.2.1.1,eq g179.2.2.2.2.1.1,eq g179.2.2.2.2.2.1.1,eq g179.2.2.2.2.2.2.1.1,eq g179.2.2.2.2.2.2.2.1.1,eq g179.2.2.2.2.2.2.2.2.1.1,eq g179.2.2.2.2.2.2.2.2.2.1],Ctr.O g179.2.1 a0.ftick,Ctr.O g179.2.2.1 a0.fstamps,VView.O g179.2.2.2.1 a0.fall.fView,Mks.O g179.2.2.2.2.1 a0.fall.fMarks,TTab.O g179.2.2.2.2.2.1 a0.fall.fTyping,PTab.O g179.2.2.2.2.2.2.1 a0.fall.fPresence,DLog.O g179.2.2.2.2.2.2.2.1 a0.fall.fLog,SMosOf.O g179.2.2.2.2.2.2.2.2.1 a0.fcome]++F) (gh_of (mpo_shut h182 rfl (perm_to (L:=[mp Value.string (fun p:OV=>eq p.1) g179.2.2.2.2.2.2.2.2.2.1 (zipK a0.fsenders z181),thg SSnd.O a0.fsenders z181,blk g179.1 102 [vS a0.fself,eq g179.2.1.1,eq g179.2.2.1.1,eq g179.2.2.2.1.1,eq g179.2.2.2.2.1.1,eq g179.2.2.2.2.2.1.1,eq g179.2.2.2.2.2.2.1.1,eq g179.2.2.2.2.2.2.2.1.1,eq g179.2.2.2.2.2.2.2.2.1.1,eq g179.2.2.2.2.2.2.2.2.2.1],Ctr.O g179.2.1 a0.ftick,Ctr.O g179.2.2.1 a0.fstamps,VView.O g179.2.2.2.1 a0.fall.fView,Mks.O g179.2.2.2.2.1 a0.fall.fMarks,TTab.O g179.2.2.2.2.2.1 a0.fall.fTyping,PTab.O g179.2.2.2.2.2.2.1 a0.fall.fPresence,DLog.O g179.2.2.2.2.2.2.2.1 a0.fall.fLog,SMosOf.O g179.2.2.2.2.2.2.2.2.1 a0.fcome]) (F:=F) [0,1,2,3,4,5,6,7,8,9,10] (by kernel_rfl) rfl rfl))) (fun _ _=>?_)
      refine Dn.gh (l':=fun _:Unit=>[SSelTicStaAllComSen.O p0_ a0]++F) (gh_of (SSelTicStaAllComSen.shut (p:=p0_) (m:=a0) (r:=F) (g179.1,g179.2.1,g179.2.2.1,g179.2.2.2.1,g179.2.2.2.2.1,g179.2.2.2.2.2.1,g179.2.2.2.2.2.2.1,g179.2.2.2.2.2.2.2.1,g179.2.2.2.2.2.2.2.2.1,g179.2.2.2.2.2.2.2.2.2) h180 (perm_to (L:=[mpo Value.string SSnd.O g179.2.2.2.2.2.2.2.2.2.1 a0.fsenders,blk g179.1 102 [vS a0.fself,eq g179.2.1.1,eq g179.2.2.1.1,eq g179.2.2.2.1.1,eq g179.2.2.2.2.1.1,eq g179.2.2.2.2.2.1.1,eq g179.2.2.2.2.2.2.1.1,eq g179.2.2.2.2.2.2.2.1.1,eq g179.2.2.2.2.2.2.2.2.1.1,eq g179.2.2.2.2.2.2.2.2.2.1],Ctr.O g179.2.1 a0.ftick,Ctr.O g179.2.2.1 a0.fstamps,VView.O g179.2.2.2.1 a0.fall.fView,Mks.O g179.2.2.2.2.1 a0.fall.fMarks,TTab.O g179.2.2.2.2.2.1 a0.fall.fTyping,PTab.O g179.2.2.2.2.2.2.1 a0.fall.fPresence,DLog.O g179.2.2.2.2.2.2.2.1 a0.fall.fLog,SMosOf.O g179.2.2.2.2.2.2.2.2.1 a0.fcome]) (F:=F) [1,2,3,4,5,6,7,8,9,0] (by kernel_rfl) rfl rfl))) (fun _ _=>?_)
      exact Jn.mk () hT weak_nil (List.Perm.refl _)
    have hz:j < (zipK a0.fsenders z181).length∧j ∉ is∧is.length < (zipK a0.fsenders z181).length:=hz
    obtain ⟨e,p,he,hp,hep⟩:=zipK_get h182 hz.1
    have hlt:is.length < a0.fsenders.length:=by rw [← zipK_len h182.1]; exact hz.2.2
    have e1:nxV Value.string (fun p:OV=>eq p.1) (zipK a0.fsenders z181) (some j) = tup [vB true,vS e.1,eq p.1]:=by simp only [nxV,hep]
    rw [e1]
    refine ex0 rfl trivial rfl rfl<|.fin<|WP.seq<|WP.cond rfl (fun _=>WP.skip ?_) nofun
    refine WP.gh (l':=fun _:Unit=>[rng Value.string (fun p:OV=>eq p.1) g179.2.2.2.2.2.2.2.2.2.1 q183.1 (zipK a0.fsenders z181) (is++[j]),thg SSnd.O a0.fsenders z181,blk g179.1 102 [vS a0.fself,eq g179.2.1.1,eq g179.2.2.1.1,eq g179.2.2.2.1.1,eq g179.2.2.2.2.1.1,eq g179.2.2.2.2.2.1.1,eq g179.2.2.2.2.2.2.1.1,eq g179.2.2.2.2.2.2.2.1.1,eq g179.2.2.2.2.2.2.2.2.1.1,eq g179.2.2.2.2.2.2.2.2.2.1],Ctr.O g179.2.1 a0.ftick,Ctr.O g179.2.2.1 a0.fstamps,VView.O g179.2.2.2.1 a0.fall.fView,Mks.O g179.2.2.2.2.1 a0.fall.fMarks,TTab.O g179.2.2.2.2.2.1 a0.fall.fTyping,PTab.O g179.2.2.2.2.2.2.1 a0.fall.fPresence,DLog.O g179.2.2.2.2.2.2.2.1 a0.fall.fLog,SMosOf.O g179.2.2.2.2.2.2.2.2.1 a0.fcome]++F) (gh_of (ok:=fun _=>True) fun R w k=>⟨(),trivial,k⟩) (fun _ _=>?_)
    refine WP.block<|WP.seq<|rg 3 0<|Dv.rge 0 rfl trivial rfl rfl hep ?_
    refine ex0 rfl trivial rfl rfl<|as0 rfl rfl<|.fin ?_
    refine WP.gh (l':=fun _:Unit=>[SSnd.O p e.2,thgX SSnd.O a0.fsenders z181 j,rng Value.string (fun p:OV=>eq p.1) g179.2.2.2.2.2.2.2.2.2.1 q183.1 (zipK a0.fsenders z181) (is++[j]),blk g179.1 102 [vS a0.fself,eq g179.2.1.1,eq g179.2.2.1.1,eq g179.2.2.2.1.1,eq g179.2.2.2.2.1.1,eq g179.2.2.2.2.2.1.1,eq g179.2.2.2.2.2.2.1.1,eq g179.2.2.2.2.2.2.2.1.1,eq g179.2.2.2.2.2.2.2.2.1.1,eq g179.2.2.2.2.2.2.2.2.2.1],Ctr.O g179.2.1 a0.ftick,Ctr.O g179.2.2.1 a0.fstamps,VView.O g179.2.2.2.1 a0.fall.fView,Mks.O g179.2.2.2.2.1 a0.fall.fMarks,TTab.O g179.2.2.2.2.2.1 a0.fall.fTyping,PTab.O g179.2.2.2.2.2.2.1 a0.fall.fPresence,DLog.O g179.2.2.2.2.2.2.2.1 a0.fall.fLog,SMosOf.O g179.2.2.2.2.2.2.2.2.1 a0.fcome]++F) (gh_of (thg_foc he hp (pm 11 [1,0,2,3,4,5,6,7,8,9,10]))) (fun _ _=>?_)
    obtain ⟨ib,hib⟩:=allO_get h177 he
    have H:Gets ((sender_Sender_Idle.f e.2).bind fun t190=>cond (!t190) (some ()) (some ())) (fun _:Unit=>True):=by rw [show sender_Sender_Idle.f e.2 = some ib from hib]; cases ib <;> exact ⟨_,rfl,trivial⟩
    refine WP.seq ?_
    refine rg 3 0 ?_
    refine Dv.mv rfl trivial rfl ?_
    refine Dv.gh (l':=fun (g184:Nat×OV×OV×OV)=>[blk g184.1 161 [eq g184.2.1.1,vS e.2.fself,vS e.2.fto,eq g184.2.2.1.1,eq g184.2.2.2.1],SQue.O g184.2.1 e.2.fQueue,Ctr.O g184.2.2.1 e.2.fids,optO Fly.O g184.2.2.2 e.2.fair,thgX SSnd.O a0.fsenders z181 j,rng Value.string (fun p:OV=>eq p.1) g179.2.2.2.2.2.2.2.2.2.1 q183.1 (zipK a0.fsenders z181) (is++[j]),blk g179.1 102 [vS a0.fself,eq g179.2.1.1,eq g179.2.2.1.1,eq g179.2.2.2.1.1,eq g179.2.2.2.2.1.1,eq g179.2.2.2.2.2.1.1,eq g179.2.2.2.2.2.2.1.1,eq g179.2.2.2.2.2.2.2.1.1,eq g179.2.2.2.2.2.2.2.2.1.1,eq g179.2.2.2.2.2.2.2.2.2.1],Ctr.O g179.2.1 a0.ftick,Ctr.O g179.2.2.1 a0.fstamps,VView.O g179.2.2.2.1 a0.fall.fView,Mks.O g179.2.2.2.2.1 a0.fall.fMarks,TTab.O g179.2.2.2.2.2.1 a0.fall.fTyping,PTab.O g179.2.2.2.2.2.2.1 a0.fall.fPresence,DLog.O g179.2.2.2.2.2.2.2.1 a0.fall.fLog,SMosOf.O g179.2.2.2.2.2.2.2.2.1 a0.fcome]++F) (gh_of (SSnd.opn 0 rfl)) (fun g184 h185=>?_)
    refine Dv.gh (l':=fun (g186:Nat×OV×OV)=>[blk g186.1 211 [vI e.2.fQueue.fmost,eq g186.2.1.1,eq g186.2.2.1,vI e.2.fQueue.flost],own EKey.K g186.2.1.1 e.2.fQueue.fkeys,mp EKey.kv (fun x:Edu=>agg (Edu.enc x)) g186.2.2.1 e.2.fQueue.fat,blk g184.1 161 [eq g184.2.1.1,vS e.2.fself,vS e.2.fto,eq g184.2.2.1.1,eq g184.2.2.2.1],Ctr.O g184.2.2.1 e.2.fids,optO Fly.O g184.2.2.2 e.2.fair,thgX SSnd.O a0.fsenders z181 j,rng Value.string (fun p:OV=>eq p.1) g179.2.2.2.2.2.2.2.2.2.1 q183.1 (zipK a0.fsenders z181) (is++[j]),blk g179.1 102 [vS a0.fself,eq g179.2.1.1,eq g179.2.2.1.1,eq g179.2.2.2.1.1,eq g179.2.2.2.2.1.1,eq g179.2.2.2.2.2.1.1,eq g179.2.2.2.2.2.2.1.1,eq g179.2.2.2.2.2.2.2.1.1,eq g179.2.2.2.2.2.2.2.2.1.1,eq g179.2.2.2.2.2.2.2.2.2.1],Ctr.O g179.2.1 a0.ftick,Ctr.O g179.2.2.1 a0.fstamps,VView.O g179.2.2.2.1 a0.fall.fView,Mks.O g179.2.2.2.2.1 a0.fall.fMarks,TTab.O g179.2.2.2.2.2.1 a0.fall.fTyping,PTab.O g179.2.2.2.2.2.2.1 a0.fall.fPresence,DLog.O g179.2.2.2.2.2.2.2.1 a0.fall.fLog,SMosOf.O g179.2.2.2.2.2.2.2.2.1 a0.fcome]++F) (gh_of (SQue.opn 1 rfl)) (fun g186 h187=>?_)
    refine Dv.gh (l':=fun (g188:Nat)=>[blk g188 137 [vI e.2.fids.fn.fv,vI e.2.fids.fmost],blk g186.1 211 [vI e.2.fQueue.fmost,eq g186.2.1.1,eq g186.2.2.1,vI e.2.fQueue.flost],own EKey.K g186.2.1.1 e.2.fQueue.fkeys,mp EKey.kv (fun x:Edu=>agg (Edu.enc x)) g186.2.2.1 e.2.fQueue.fat,blk g184.1 161 [eq g184.2.1.1,vS e.2.fself,vS e.2.fto,eq g184.2.2.1.1,eq g184.2.2.2.1],optO Fly.O g184.2.2.2 e.2.fair,thgX SSnd.O a0.fsenders z181 j,rng Value.string (fun p:OV=>eq p.1) g179.2.2.2.2.2.2.2.2.2.1 q183.1 (zipK a0.fsenders z181) (is++[j]),blk g179.1 102 [vS a0.fself,eq g179.2.1.1,eq g179.2.2.1.1,eq g179.2.2.2.1.1,eq g179.2.2.2.2.1.1,eq g179.2.2.2.2.2.1.1,eq g179.2.2.2.2.2.2.1.1,eq g179.2.2.2.2.2.2.2.1.1,eq g179.2.2.2.2.2.2.2.2.1.1,eq g179.2.2.2.2.2.2.2.2.2.1],Ctr.O g179.2.1 a0.ftick,Ctr.O g179.2.2.1 a0.fstamps,VView.O g179.2.2.2.1 a0.fall.fView,Mks.O g179.2.2.2.2.1 a0.fall.fMarks,TTab.O g179.2.2.2.2.2.1 a0.fall.fTyping,PTab.O g179.2.2.2.2.2.2.1 a0.fall.fPresence,DLog.O g179.2.2.2.2.2.2.2.1 a0.fall.fLog,SMosOf.O g179.2.2.2.2.2.2.2.2.1 a0.fcome]++F) (gh_of (Ctr.opn 4 rfl)) (fun g188 h189=>?_)
    obtain ⟨t190,h191,H⟩:=Gets.call H
    refine Dv.calll (B:=[blk g184.1 161 [eq g184.2.1.1,vS e.2.fself,vS e.2.fto,eq g184.2.2.1.1,eq g184.2.2.2.1],blk g186.1 211 [vI e.2.fQueue.fmost,eq g186.2.1.1,eq g186.2.2.1,vI e.2.fQueue.flost],own EKey.K g186.2.1.1 e.2.fQueue.fkeys,mp EKey.kv (fun x:Edu=>agg (Edu.enc x)) g186.2.2.1 e.2.fQueue.fat,blk g188 137 [vI e.2.fids.fn.fv,vI e.2.fids.fmost],optO Fly.O g184.2.2.2 e.2.fair]) (F:=[thgX SSnd.O a0.fsenders z181 j,rng Value.string (fun p:OV=>eq p.1) g179.2.2.2.2.2.2.2.2.2.1 q183.1 (zipK a0.fsenders z181) (is++[j]),blk g179.1 102 [vS a0.fself,eq g179.2.1.1,eq g179.2.2.1.1,eq g179.2.2.2.1.1,eq g179.2.2.2.2.1.1,eq g179.2.2.2.2.2.1.1,eq g179.2.2.2.2.2.2.1.1,eq g179.2.2.2.2.2.2.2.1.1,eq g179.2.2.2.2.2.2.2.2.1.1,eq g179.2.2.2.2.2.2.2.2.2.1],Ctr.O g179.2.1 a0.ftick,Ctr.O g179.2.2.1 a0.fstamps,VView.O g179.2.2.2.1 a0.fall.fView,Mks.O g179.2.2.2.2.1 a0.fall.fMarks,TTab.O g179.2.2.2.2.2.1 a0.fall.fTyping,PTab.O g179.2.2.2.2.2.2.1 a0.fall.fPresence,DLog.O g179.2.2.2.2.2.2.2.1 a0.fall.fLog,SMosOf.O g179.2.2.2.2.2.2.2.2.1 a0.fcome]++F) rfl trivial cal37 rfl (Tr.weak (sender_Sender_Idle.c h191 (b0_:=g184.1) (v0_0:=g184.2.1) (v0_1:=g184.2.2.1) (v0_2:=g184.2.2.2) (v0_3:=g186.2.1) (v0_4:=g186.2.2) (d0_0:=g186.1) (e0_0:=h187) (d0_1:=g188) (e0_1:=h189)) (.cons (wk_ptr h185) .nil)) (perm_to (L:=[blk g188 137 [vI e.2.fids.fn.fv,vI e.2.fids.fmost],blk g186.1 211 [vI e.2.fQueue.fmost,eq g186.2.1.1,eq g186.2.2.1,vI e.2.fQueue.flost],own EKey.K g186.2.1.1 e.2.fQueue.fkeys,mp EKey.kv (fun x:Edu=>agg (Edu.enc x)) g186.2.2.1 e.2.fQueue.fat,blk g184.1 161 [eq g184.2.1.1,vS e.2.fself,vS e.2.fto,eq g184.2.2.1.1,eq g184.2.2.2.1],optO Fly.O g184.2.2.2 e.2.fair,thgX SSnd.O a0.fsenders z181 j,rng Value.string (fun p:OV=>eq p.1) g179.2.2.2.2.2.2.2.2.2.1 q183.1 (zipK a0.fsenders z181) (is++[j]),blk g179.1 102 [vS a0.fself,eq g179.2.1.1,eq g179.2.2.1.1,eq g179.2.2.2.1.1,eq g179.2.2.2.2.1.1,eq g179.2.2.2.2.2.1.1,eq g179.2.2.2.2.2.2.1.1,eq g179.2.2.2.2.2.2.2.1.1,eq g179.2.2.2.2.2.2.2.2.1.1,eq g179.2.2.2.2.2.2.2.2.2.1],Ctr.O g179.2.1 a0.ftick,Ctr.O g179.2.2.1 a0.fstamps,VView.O g179.2.2.2.1 a0.fall.fView,Mks.O g179.2.2.2.2.1 a0.fall.fMarks,TTab.O g179.2.2.2.2.2.1 a0.fall.fTyping,PTab.O g179.2.2.2.2.2.2.1 a0.fall.fPresence,DLog.O g179.2.2.2.2.2.2.2.1 a0.fall.fLog,SMosOf.O g179.2.2.2.2.2.2.2.2.1 a0.fcome]) (F:=F) [4,1,2,3,0,5,6,7,8,9,10,11,12,13,14,15,16] (by kernel_rfl) rfl rfl) ?_
    refine Dv.un rfl trivial rfl (fun _=>run_not _) ?_
    refine .fin ?_
    refine WP.cond rfl (fun c192=>?_) (fun c192=>?_)
    · have H:=H.ct c192
      refine WP.seq ?_
      refine rg 1 0 ?_
      refine Dv.asg rfl trivial rfl ?_
      refine .fin ?_
      have e8:t190 = false:=by simpa using ‹(!t190) = true›
      have e9:t176 = false:=allO_false h177 he (by show sender_Sender_Idle.f e.2 = some false; rw [← e8]; assumption)
      subst e9
      have H:Gets (some false) (fun v=>v = r):=⟨false,rfl,h178⟩
      refine WP.gh (l':=fun _:Unit=>[SQue.O g184.2.1 e.2.fQueue,blk g188 137 [vI e.2.fids.fn.fv,vI e.2.fids.fmost],blk g184.1 161 [eq g184.2.1.1,vS e.2.fself,vS e.2.fto,eq g184.2.2.1.1,eq g184.2.2.2.1],optO Fly.O g184.2.2.2 e.2.fair,thgX SSnd.O a0.fsenders z181 j,rng Value.string (fun p:OV=>eq p.1) g179.2.2.2.2.2.2.2.2.2.1 q183.1 (zipK a0.fsenders z181) (is++[j]),blk g179.1 102 [vS a0.fself,eq g179.2.1.1,eq g179.2.2.1.1,eq g179.2.2.2.1.1,eq g179.2.2.2.2.1.1,eq g179.2.2.2.2.2.1.1,eq g179.2.2.2.2.2.2.1.1,eq g179.2.2.2.2.2.2.2.1.1,eq g179.2.2.2.2.2.2.2.2.1.1,eq g179.2.2.2.2.2.2.2.2.2.1],Ctr.O g179.2.1 a0.ftick,Ctr.O g179.2.2.1 a0.fstamps,VView.O g179.2.2.2.1 a0.fall.fView,Mks.O g179.2.2.2.2.1 a0.fall.fMarks,TTab.O g179.2.2.2.2.2.1 a0.fall.fTyping,PTab.O g179.2.2.2.2.2.2.1 a0.fall.fPresence,DLog.O g179.2.2.2.2.2.2.2.1 a0.fall.fLog,SMosOf.O g179.2.2.2.2.2.2.2.2.1 a0.fcome]++F) (gh_of (SQue.shut (p:=g184.2.1) (m:=e.2.fQueue) (r:=[blk g188 137 [vI e.2.fids.fn.fv,vI e.2.fids.fmost],blk g184.1 161 [eq g184.2.1.1,vS e.2.fself,vS e.2.fto,eq g184.2.2.1.1,eq g184.2.2.2.1],optO Fly.O g184.2.2.2 e.2.fair,thgX SSnd.O a0.fsenders z181 j,rng Value.string (fun p:OV=>eq p.1) g179.2.2.2.2.2.2.2.2.2.1 q183.1 (zipK a0.fsenders z181) (is++[j]),blk g179.1 102 [vS a0.fself,eq g179.2.1.1,eq g179.2.2.1.1,eq g179.2.2.2.1.1,eq g179.2.2.2.2.1.1,eq g179.2.2.2.2.2.1.1,eq g179.2.2.2.2.2.2.1.1,eq g179.2.2.2.2.2.2.2.1.1,eq g179.2.2.2.2.2.2.2.2.1.1,eq g179.2.2.2.2.2.2.2.2.2.1],Ctr.O g179.2.1 a0.ftick,Ctr.O g179.2.2.1 a0.fstamps,VView.O g179.2.2.2.1 a0.fall.fView,Mks.O g179.2.2.2.2.1 a0.fall.fMarks,TTab.O g179.2.2.2.2.2.1 a0.fall.fTyping,PTab.O g179.2.2.2.2.2.2.1 a0.fall.fPresence,DLog.O g179.2.2.2.2.2.2.2.1 a0.fall.fLog,SMosOf.O g179.2.2.2.2.2.2.2.2.1 a0.fcome]++F) (g186.1,g186.2.1,g186.2.2) h187 (perm_to (L:=[blk g188 137 [vI e.2.fids.fn.fv,vI e.2.fids.fmost],blk g186.1 211 [vI e.2.fQueue.fmost,eq g186.2.1.1,eq g186.2.2.1,vI e.2.fQueue.flost],own EKey.K g186.2.1.1 e.2.fQueue.fkeys,mp EKey.kv (fun x:Edu=>agg (Edu.enc x)) g186.2.2.1 e.2.fQueue.fat,blk g184.1 161 [eq g184.2.1.1,vS e.2.fself,vS e.2.fto,eq g184.2.2.1.1,eq g184.2.2.2.1],optO Fly.O g184.2.2.2 e.2.fair,thgX SSnd.O a0.fsenders z181 j,rng Value.string (fun p:OV=>eq p.1) g179.2.2.2.2.2.2.2.2.2.1 q183.1 (zipK a0.fsenders z181) (is++[j]),blk g179.1 102 [vS a0.fself,eq g179.2.1.1,eq g179.2.2.1.1,eq g179.2.2.2.1.1,eq g179.2.2.2.2.1.1,eq g179.2.2.2.2.2.1.1,eq g179.2.2.2.2.2.2.1.1,eq g179.2.2.2.2.2.2.2.1.1,eq g179.2.2.2.2.2.2.2.2.1.1,eq g179.2.2.2.2.2.2.2.2.2.1],Ctr.O g179.2.1 a0.ftick,Ctr.O g179.2.2.1 a0.fstamps,VView.O g179.2.2.2.1 a0.fall.fView,Mks.O g179.2.2.2.2.1 a0.fall.fMarks,TTab.O g179.2.2.2.2.2.1 a0.fall.fTyping,PTab.O g179.2.2.2.2.2.2.1 a0.fall.fPresence,DLog.O g179.2.2.2.2.2.2.2.1 a0.fall.fLog,SMosOf.O g179.2.2.2.2.2.2.2.2.1 a0.fcome]) (F:=F) [1,2,3,0,4,5,6,7,8,9,10,11,12,13,14,15,16] (by kernel_rfl) rfl rfl))) (fun _ _=>?_)
      refine WP.gh (l':=fun _:Unit=>[Ctr.O g184.2.2.1 e.2.fids,SQue.O g184.2.1 e.2.fQueue,blk g184.1 161 [eq g184.2.1.1,vS e.2.fself,vS e.2.fto,eq g184.2.2.1.1,eq g184.2.2.2.1],optO Fly.O g184.2.2.2 e.2.fair,thgX SSnd.O a0.fsenders z181 j,rng Value.string (fun p:OV=>eq p.1) g179.2.2.2.2.2.2.2.2.2.1 q183.1 (zipK a0.fsenders z181) (is++[j]),blk g179.1 102 [vS a0.fself,eq g179.2.1.1,eq g179.2.2.1.1,eq g179.2.2.2.1.1,eq g179.2.2.2.2.1.1,eq g179.2.2.2.2.2.1.1,eq g179.2.2.2.2.2.2.1.1,eq g179.2.2.2.2.2.2.2.1.1,eq g179.2.2.2.2.2.2.2.2.1.1,eq g179.2.2.2.2.2.2.2.2.2.1],Ctr.O g179.2.1 a0.ftick,Ctr.O g179.2.2.1 a0.fstamps,VView.O g179.2.2.2.1 a0.fall.fView,Mks.O g179.2.2.2.2.1 a0.fall.fMarks,TTab.O g179.2.2.2.2.2.1 a0.fall.fTyping,PTab.O g179.2.2.2.2.2.2.1 a0.fall.fPresence,DLog.O g179.2.2.2.2.2.2.2.1 a0.fall.fLog,SMosOf.O g179.2.2.2.2.2.2.2.2.1 a0.fcome]++F) (gh_of (Ctr.shut (p:=g184.2.2.1) (m:=e.2.fids) (r:=[SQue.O g184.2.1 e.2.fQueue,blk g184.1 161 [eq g184.2.1.1,vS e.2.fself,vS e.2.fto,eq g184.2.2.1.1,eq g184.2.2.2.1],optO Fly.O g184.2.2.2 e.2.fair,thgX SSnd.O a0.fsenders z181 j,rng Value.string (fun p:OV=>eq p.1) g179.2.2.2.2.2.2.2.2.2.1 q183.1 (zipK a0.fsenders z181) (is++[j]),blk g179.1 102 [vS a0.fself,eq g179.2.1.1,eq g179.2.2.1.1,eq g179.2.2.2.1.1,eq g179.2.2.2.2.1.1,eq g179.2.2.2.2.2.1.1,eq g179.2.2.2.2.2.2.1.1,eq g179.2.2.2.2.2.2.2.1.1,eq g179.2.2.2.2.2.2.2.2.1.1,eq g179.2.2.2.2.2.2.2.2.2.1],Ctr.O g179.2.1 a0.ftick,Ctr.O g179.2.2.1 a0.fstamps,VView.O g179.2.2.2.1 a0.fall.fView,Mks.O g179.2.2.2.2.1 a0.fall.fMarks,TTab.O g179.2.2.2.2.2.1 a0.fall.fTyping,PTab.O g179.2.2.2.2.2.2.1 a0.fall.fPresence,DLog.O g179.2.2.2.2.2.2.2.1 a0.fall.fLog,SMosOf.O g179.2.2.2.2.2.2.2.2.1 a0.fcome]++F) g188 h189 (perm_to (L:=[SQue.O g184.2.1 e.2.fQueue,blk g188 137 [vI e.2.fids.fn.fv,vI e.2.fids.fmost],blk g184.1 161 [eq g184.2.1.1,vS e.2.fself,vS e.2.fto,eq g184.2.2.1.1,eq g184.2.2.2.1],optO Fly.O g184.2.2.2 e.2.fair,thgX SSnd.O a0.fsenders z181 j,rng Value.string (fun p:OV=>eq p.1) g179.2.2.2.2.2.2.2.2.2.1 q183.1 (zipK a0.fsenders z181) (is++[j]),blk g179.1 102 [vS a0.fself,eq g179.2.1.1,eq g179.2.2.1.1,eq g179.2.2.2.1.1,eq g179.2.2.2.2.1.1,eq g179.2.2.2.2.2.1.1,eq g179.2.2.2.2.2.2.1.1,eq g179.2.2.2.2.2.2.2.1.1,eq g179.2.2.2.2.2.2.2.2.1.1,eq g179.2.2.2.2.2.2.2.2.2.1],Ctr.O g179.2.1 a0.ftick,Ctr.O g179.2.2.1 a0.fstamps,VView.O g179.2.2.2.1 a0.fall.fView,Mks.O g179.2.2.2.2.1 a0.fall.fMarks,TTab.O g179.2.2.2.2.2.1 a0.fall.fTyping,PTab.O g179.2.2.2.2.2.2.1 a0.fall.fPresence,DLog.O g179.2.2.2.2.2.2.2.1 a0.fall.fLog,SMosOf.O g179.2.2.2.2.2.2.2.2.1 a0.fcome]) (F:=F) [1,0,2,3,4,5,6,7,8,9,10,11,12,13,14] (by kernel_rfl) rfl rfl))) (fun _ _=>?_)
      refine WP.gh (l':=fun _:Unit=>[SSnd.O p e.2,thgX SSnd.O a0.fsenders z181 j,rng Value.string (fun p:OV=>eq p.1) g179.2.2.2.2.2.2.2.2.2.1 q183.1 (zipK a0.fsenders z181) (is++[j]),blk g179.1 102 [vS a0.fself,eq g179.2.1.1,eq g179.2.2.1.1,eq g179.2.2.2.1.1,eq g179.2.2.2.2.1.1,eq g179.2.2.2.2.2.1.1,eq g179.2.2.2.2.2.2.1.1,eq g179.2.2.2.2.2.2.2.1.1,eq g179.2.2.2.2.2.2.2.2.1.1,eq g179.2.2.2.2.2.2.2.2.2.1],Ctr.O g179.2.1 a0.ftick,Ctr.O g179.2.2.1 a0.fstamps,VView.O g179.2.2.2.1 a0.fall.fView,Mks.O g179.2.2.2.2.1 a0.fall.fMarks,TTab.O g179.2.2.2.2.2.1 a0.fall.fTyping,PTab.O g179.2.2.2.2.2.2.1 a0.fall.fPresence,DLog.O g179.2.2.2.2.2.2.2.1 a0.fall.fLog,SMosOf.O g179.2.2.2.2.2.2.2.2.1 a0.fcome]++F) (gh_of (SSnd.shut (p:=p) (m:=e.2) (r:=[thgX SSnd.O a0.fsenders z181 j,rng Value.string (fun p:OV=>eq p.1) g179.2.2.2.2.2.2.2.2.2.1 q183.1 (zipK a0.fsenders z181) (is++[j]),blk g179.1 102 [vS a0.fself,eq g179.2.1.1,eq g179.2.2.1.1,eq g179.2.2.2.1.1,eq g179.2.2.2.2.1.1,eq g179.2.2.2.2.2.1.1,eq g179.2.2.2.2.2.2.1.1,eq g179.2.2.2.2.2.2.2.1.1,eq g179.2.2.2.2.2.2.2.2.1.1,eq g179.2.2.2.2.2.2.2.2.2.1],Ctr.O g179.2.1 a0.ftick,Ctr.O g179.2.2.1 a0.fstamps,VView.O g179.2.2.2.1 a0.fall.fView,Mks.O g179.2.2.2.2.1 a0.fall.fMarks,TTab.O g179.2.2.2.2.2.1 a0.fall.fTyping,PTab.O g179.2.2.2.2.2.2.1 a0.fall.fPresence,DLog.O g179.2.2.2.2.2.2.2.1 a0.fall.fLog,SMosOf.O g179.2.2.2.2.2.2.2.2.1 a0.fcome]++F) (g184.1,g184.2.1,g184.2.2.1,g184.2.2.2) h185 (perm_to (L:=[Ctr.O g184.2.2.1 e.2.fids,SQue.O g184.2.1 e.2.fQueue,blk g184.1 161 [eq g184.2.1.1,vS e.2.fself,vS e.2.fto,eq g184.2.2.1.1,eq g184.2.2.2.1],optO Fly.O g184.2.2.2 e.2.fair,thgX SSnd.O a0.fsenders z181 j,rng Value.string (fun p:OV=>eq p.1) g179.2.2.2.2.2.2.2.2.2.1 q183.1 (zipK a0.fsenders z181) (is++[j]),blk g179.1 102 [vS a0.fself,eq g179.2.1.1,eq g179.2.2.1.1,eq g179.2.2.2.1.1,eq g179.2.2.2.2.1.1,eq g179.2.2.2.2.2.1.1,eq g179.2.2.2.2.2.2.1.1,eq g179.2.2.2.2.2.2.2.1.1,eq g179.2.2.2.2.2.2.2.2.1.1,eq g179.2.2.2.2.2.2.2.2.2.1],Ctr.O g179.2.1 a0.ftick,Ctr.O g179.2.2.1 a0.fstamps,VView.O g179.2.2.2.1 a0.fall.fView,Mks.O g179.2.2.2.2.1 a0.fall.fMarks,TTab.O g179.2.2.2.2.2.1 a0.fall.fTyping,PTab.O g179.2.2.2.2.2.2.1 a0.fall.fPresence,DLog.O g179.2.2.2.2.2.2.2.1 a0.fall.fLog,SMosOf.O g179.2.2.2.2.2.2.2.2.1 a0.fcome]) (F:=F) [2,1,0,3,4,5,6,7,8,9,10,11,12,13,14] (by kernel_rfl) rfl rfl))) (fun _ _=>?_)
      refine WP.gh (l':=fun _:Unit=>[thg SSnd.O a0.fsenders z181,rng Value.string (fun p:OV=>eq p.1) g179.2.2.2.2.2.2.2.2.2.1 q183.1 (zipK a0.fsenders z181) (is++[j]),blk g179.1 102 [vS a0.fself,eq g179.2.1.1,eq g179.2.2.1.1,eq g179.2.2.2.1.1,eq g179.2.2.2.2.1.1,eq g179.2.2.2.2.2.1.1,eq g179.2.2.2.2.2.2.1.1,eq g179.2.2.2.2.2.2.2.1.1,eq g179.2.2.2.2.2.2.2.2.1.1,eq g179.2.2.2.2.2.2.2.2.2.1],Ctr.O g179.2.1 a0.ftick,Ctr.O g179.2.2.1 a0.fstamps,VView.O g179.2.2.2.1 a0.fall.fView,Mks.O g179.2.2.2.2.1 a0.fall.fMarks,TTab.O g179.2.2.2.2.2.1 a0.fall.fTyping,PTab.O g179.2.2.2.2.2.2.1 a0.fall.fPresence,DLog.O g179.2.2.2.2.2.2.2.1 a0.fall.fLog,SMosOf.O g179.2.2.2.2.2.2.2.2.1 a0.fcome]++F) (gh_of (thg_unf he hp (pm 12 [0,1,2,3,4,5,6,7,8,9,10,11]))) (fun _ _=>?_)
      refine WP.gh (l':=fun _:Unit=>[mp Value.string (fun p:OV=>eq p.1) g179.2.2.2.2.2.2.2.2.2.1 (zipK a0.fsenders z181),thg SSnd.O a0.fsenders z181,blk g179.1 102 [vS a0.fself,eq g179.2.1.1,eq g179.2.2.1.1,eq g179.2.2.2.1.1,eq g179.2.2.2.2.1.1,eq g179.2.2.2.2.2.1.1,eq g179.2.2.2.2.2.2.1.1,eq g179.2.2.2.2.2.2.2.1.1,eq g179.2.2.2.2.2.2.2.2.1.1,eq g179.2.2.2.2.2.2.2.2.2.1],Ctr.O g179.2.1 a0.ftick,Ctr.O g179.2.2.1 a0.fstamps,VView.O g179.2.2.2.1 a0.fall.fView,Mks.O g179.2.2.2.2.1 a0.fall.fMarks,TTab.O g179.2.2.2.2.2.1 a0.fall.fTyping,PTab.O g179.2.2.2.2.2.2.1 a0.fall.fPresence,DLog.O g179.2.2.2.2.2.2.2.1 a0.fall.fLog,SMosOf.O g179.2.2.2.2.2.2.2.2.1 a0.fcome]++F) (gh_of (st_rge (pm 11 [1,0,2,3,4,5,6,7,8,9,10]))) (fun _ _=>?_)
      refine WP.gh (l':=fun _:Unit=>[mpo Value.string SSnd.O g179.2.2.2.2.2.2.2.2.2.1 a0.fsenders,blk g179.1 102 [vS a0.fself,eq g179.2.1.1,eq g179.2.2.1.1,eq g179.2.2.2.1.1,eq g179.2.2.2.2.1.1,eq g179.2.2.2.2.2.1.1,eq g179.2.2.2.2.2.2.1.1,eq g179.2.2.2.2.2.2.2.1.1,eq g179.2.2.2.2.2.2.2.2.1.1,eq g179.2.2.2.2.2.2.2.2.2.1],Ctr.O g179.2.1 a0.ftick,Ctr.O g179.2.2.1 a0.fstamps,VView.O g179.2.2.2.1 a0.fall.fView,Mks.O g179.2.2.2.2.1 a0.fall.fMarks,TTab.O g179.2.2.2.2.2.1 a0.fall.fTyping,PTab.O g179.2.2.2.2.2.2.1 a0.fall.fPresence,DLog.O g179.2.2.2.2.2.2.2.1 a0.fall.fLog,SMosOf.O g179.2.2.2.2.2.2.2.2.1 a0.fcome]++F) (gh_of (mpo_shut h182 rfl (perm_to (L:=[mp Value.string (fun p:OV=>eq p.1) g179.2.2.2.2.2.2.2.2.2.1 (zipK a0.fsenders z181),thg SSnd.O a0.fsenders z181,blk g179.1 102 [vS a0.fself,eq g179.2.1.1,eq g179.2.2.1.1,eq g179.2.2.2.1.1,eq g179.2.2.2.2.1.1,eq g179.2.2.2.2.2.1.1,eq g179.2.2.2.2.2.2.1.1,eq g179.2.2.2.2.2.2.2.1.1,eq g179.2.2.2.2.2.2.2.2.1.1,eq g179.2.2.2.2.2.2.2.2.2.1],Ctr.O g179.2.1 a0.ftick,Ctr.O g179.2.2.1 a0.fstamps,VView.O g179.2.2.2.1 a0.fall.fView,Mks.O g179.2.2.2.2.1 a0.fall.fMarks,TTab.O g179.2.2.2.2.2.1 a0.fall.fTyping,PTab.O g179.2.2.2.2.2.2.1 a0.fall.fPresence,DLog.O g179.2.2.2.2.2.2.2.1 a0.fall.fLog,SMosOf.O g179.2.2.2.2.2.2.2.2.1 a0.fcome]) (F:=F) [0,1,2,3,4,5,6,7,8,9,10] (by kernel_rfl) rfl rfl))) (fun _ _=>?_)
      refine WP.gh (l':=fun _:Unit=>[SSelTicStaAllComSen.O p0_ a0]++F) (gh_of (SSelTicStaAllComSen.shut (p:=p0_) (m:=a0) (r:=F) (g179.1,g179.2.1,g179.2.2.1,g179.2.2.2.1,g179.2.2.2.2.1,g179.2.2.2.2.2.1,g179.2.2.2.2.2.2.1,g179.2.2.2.2.2.2.2.1,g179.2.2.2.2.2.2.2.2.1,g179.2.2.2.2.2.2.2.2.2) h180 (perm_to (L:=[mpo Value.string SSnd.O g179.2.2.2.2.2.2.2.2.2.1 a0.fsenders,blk g179.1 102 [vS a0.fself,eq g179.2.1.1,eq g179.2.2.1.1,eq g179.2.2.2.1.1,eq g179.2.2.2.2.1.1,eq g179.2.2.2.2.2.1.1,eq g179.2.2.2.2.2.2.1.1,eq g179.2.2.2.2.2.2.2.1.1,eq g179.2.2.2.2.2.2.2.2.1.1,eq g179.2.2.2.2.2.2.2.2.2.1],Ctr.O g179.2.1 a0.ftick,Ctr.O g179.2.2.1 a0.fstamps,VView.O g179.2.2.2.1 a0.fall.fView,Mks.O g179.2.2.2.2.1 a0.fall.fMarks,TTab.O g179.2.2.2.2.2.1 a0.fall.fTyping,PTab.O g179.2.2.2.2.2.2.1 a0.fall.fPresence,DLog.O g179.2.2.2.2.2.2.2.1 a0.fall.fLog,SMosOf.O g179.2.2.2.2.2.2.2.2.1 a0.fcome]) (F:=F) [1,2,3,4,5,6,7,8,9,0] (by kernel_rfl) rfl rfl))) (fun _ _=>?_)
      obtain rfl:=Gets.out H
      exact WP.retL (fun _ _ h=>h) rfl () trivial (.cons (res_tmp rfl) .nil) rfl (st_sel (L:=[SSelTicStaAllComSen.O p0_ a0]) (F:=F) [0] 0 rfl rfl rfl)
    · have H:=H.cf c192
      refine WP.skip ?_
      have e8:t190 = true:=by simpa using ‹(!t190) = false›
      have hC:(is++[j]).length + (kk - 1) = a0.fsenders.length∧∀ i∈is++[j],∀ e,a0.fsenders[i]? = some e→sender_Sender_Idle.f e.2 = some true:=⟨by rw [List.length_append,List.length_singleton]; omega,fun i hi e3 he3=>by
          rcases List.mem_append.1 hi with hi | hi
          · exact hI i hi e3 he3
          · rw [List.mem_singleton.1 hi,he] at he3; cases he3; rw [← e8]; assumption⟩
      refine Dn.gh (l':=fun _:Unit=>[SQue.O g184.2.1 e.2.fQueue,blk g188 137 [vI e.2.fids.fn.fv,vI e.2.fids.fmost],blk g184.1 161 [eq g184.2.1.1,vS e.2.fself,vS e.2.fto,eq g184.2.2.1.1,eq g184.2.2.2.1],optO Fly.O g184.2.2.2 e.2.fair,thgX SSnd.O a0.fsenders z181 j,rng Value.string (fun p:OV=>eq p.1) g179.2.2.2.2.2.2.2.2.2.1 q183.1 (zipK a0.fsenders z181) (is++[j]),blk g179.1 102 [vS a0.fself,eq g179.2.1.1,eq g179.2.2.1.1,eq g179.2.2.2.1.1,eq g179.2.2.2.2.1.1,eq g179.2.2.2.2.2.1.1,eq g179.2.2.2.2.2.2.1.1,eq g179.2.2.2.2.2.2.2.1.1,eq g179.2.2.2.2.2.2.2.2.1.1,eq g179.2.2.2.2.2.2.2.2.2.1],Ctr.O g179.2.1 a0.ftick,Ctr.O g179.2.2.1 a0.fstamps,VView.O g179.2.2.2.1 a0.fall.fView,Mks.O g179.2.2.2.2.1 a0.fall.fMarks,TTab.O g179.2.2.2.2.2.1 a0.fall.fTyping,PTab.O g179.2.2.2.2.2.2.1 a0.fall.fPresence,DLog.O g179.2.2.2.2.2.2.2.1 a0.fall.fLog,SMosOf.O g179.2.2.2.2.2.2.2.2.1 a0.fcome]++F) (gh_of (SQue.shut (p:=g184.2.1) (m:=e.2.fQueue) (r:=[blk g188 137 [vI e.2.fids.fn.fv,vI e.2.fids.fmost],blk g184.1 161 [eq g184.2.1.1,vS e.2.fself,vS e.2.fto,eq g184.2.2.1.1,eq g184.2.2.2.1],optO Fly.O g184.2.2.2 e.2.fair,thgX SSnd.O a0.fsenders z181 j,rng Value.string (fun p:OV=>eq p.1) g179.2.2.2.2.2.2.2.2.2.1 q183.1 (zipK a0.fsenders z181) (is++[j]),blk g179.1 102 [vS a0.fself,eq g179.2.1.1,eq g179.2.2.1.1,eq g179.2.2.2.1.1,eq g179.2.2.2.2.1.1,eq g179.2.2.2.2.2.1.1,eq g179.2.2.2.2.2.2.1.1,eq g179.2.2.2.2.2.2.2.1.1,eq g179.2.2.2.2.2.2.2.2.1.1,eq g179.2.2.2.2.2.2.2.2.2.1],Ctr.O g179.2.1 a0.ftick,Ctr.O g179.2.2.1 a0.fstamps,VView.O g179.2.2.2.1 a0.fall.fView,Mks.O g179.2.2.2.2.1 a0.fall.fMarks,TTab.O g179.2.2.2.2.2.1 a0.fall.fTyping,PTab.O g179.2.2.2.2.2.2.1 a0.fall.fPresence,DLog.O g179.2.2.2.2.2.2.2.1 a0.fall.fLog,SMosOf.O g179.2.2.2.2.2.2.2.2.1 a0.fcome]++F) (g186.1,g186.2.1,g186.2.2) h187 (perm_to (L:=[blk g188 137 [vI e.2.fids.fn.fv,vI e.2.fids.fmost],blk g186.1 211 [vI e.2.fQueue.fmost,eq g186.2.1.1,eq g186.2.2.1,vI e.2.fQueue.flost],own EKey.K g186.2.1.1 e.2.fQueue.fkeys,mp EKey.kv (fun x:Edu=>agg (Edu.enc x)) g186.2.2.1 e.2.fQueue.fat,blk g184.1 161 [eq g184.2.1.1,vS e.2.fself,vS e.2.fto,eq g184.2.2.1.1,eq g184.2.2.2.1],optO Fly.O g184.2.2.2 e.2.fair,thgX SSnd.O a0.fsenders z181 j,rng Value.string (fun p:OV=>eq p.1) g179.2.2.2.2.2.2.2.2.2.1 q183.1 (zipK a0.fsenders z181) (is++[j]),blk g179.1 102 [vS a0.fself,eq g179.2.1.1,eq g179.2.2.1.1,eq g179.2.2.2.1.1,eq g179.2.2.2.2.1.1,eq g179.2.2.2.2.2.1.1,eq g179.2.2.2.2.2.2.1.1,eq g179.2.2.2.2.2.2.2.1.1,eq g179.2.2.2.2.2.2.2.2.1.1,eq g179.2.2.2.2.2.2.2.2.2.1],Ctr.O g179.2.1 a0.ftick,Ctr.O g179.2.2.1 a0.fstamps,VView.O g179.2.2.2.1 a0.fall.fView,Mks.O g179.2.2.2.2.1 a0.fall.fMarks,TTab.O g179.2.2.2.2.2.1 a0.fall.fTyping,PTab.O g179.2.2.2.2.2.2.1 a0.fall.fPresence,DLog.O g179.2.2.2.2.2.2.2.1 a0.fall.fLog,SMosOf.O g179.2.2.2.2.2.2.2.2.1 a0.fcome]) (F:=F) [1,2,3,0,4,5,6,7,8,9,10,11,12,13,14,15,16] (by kernel_rfl) rfl rfl))) (fun _ _=>?_)
      refine Dn.gh (l':=fun _:Unit=>[Ctr.O g184.2.2.1 e.2.fids,SQue.O g184.2.1 e.2.fQueue,blk g184.1 161 [eq g184.2.1.1,vS e.2.fself,vS e.2.fto,eq g184.2.2.1.1,eq g184.2.2.2.1],optO Fly.O g184.2.2.2 e.2.fair,thgX SSnd.O a0.fsenders z181 j,rng Value.string (fun p:OV=>eq p.1) g179.2.2.2.2.2.2.2.2.2.1 q183.1 (zipK a0.fsenders z181) (is++[j]),blk g179.1 102 [vS a0.fself,eq g179.2.1.1,eq g179.2.2.1.1,eq g179.2.2.2.1.1,eq g179.2.2.2.2.1.1,eq g179.2.2.2.2.2.1.1,eq g179.2.2.2.2.2.2.1.1,eq g179.2.2.2.2.2.2.2.1.1,eq g179.2.2.2.2.2.2.2.2.1.1,eq g179.2.2.2.2.2.2.2.2.2.1],Ctr.O g179.2.1 a0.ftick,Ctr.O g179.2.2.1 a0.fstamps,VView.O g179.2.2.2.1 a0.fall.fView,Mks.O g179.2.2.2.2.1 a0.fall.fMarks,TTab.O g179.2.2.2.2.2.1 a0.fall.fTyping,PTab.O g179.2.2.2.2.2.2.1 a0.fall.fPresence,DLog.O g179.2.2.2.2.2.2.2.1 a0.fall.fLog,SMosOf.O g179.2.2.2.2.2.2.2.2.1 a0.fcome]++F) (gh_of (Ctr.shut (p:=g184.2.2.1) (m:=e.2.fids) (r:=[SQue.O g184.2.1 e.2.fQueue,blk g184.1 161 [eq g184.2.1.1,vS e.2.fself,vS e.2.fto,eq g184.2.2.1.1,eq g184.2.2.2.1],optO Fly.O g184.2.2.2 e.2.fair,thgX SSnd.O a0.fsenders z181 j,rng Value.string (fun p:OV=>eq p.1) g179.2.2.2.2.2.2.2.2.2.1 q183.1 (zipK a0.fsenders z181) (is++[j]),blk g179.1 102 [vS a0.fself,eq g179.2.1.1,eq g179.2.2.1.1,eq g179.2.2.2.1.1,eq g179.2.2.2.2.1.1,eq g179.2.2.2.2.2.1.1,eq g179.2.2.2.2.2.2.1.1,eq g179.2.2.2.2.2.2.2.1.1,eq g179.2.2.2.2.2.2.2.2.1.1,eq g179.2.2.2.2.2.2.2.2.2.1],Ctr.O g179.2.1 a0.ftick,Ctr.O g179.2.2.1 a0.fstamps,VView.O g179.2.2.2.1 a0.fall.fView,Mks.O g179.2.2.2.2.1 a0.fall.fMarks,TTab.O g179.2.2.2.2.2.1 a0.fall.fTyping,PTab.O g179.2.2.2.2.2.2.1 a0.fall.fPresence,DLog.O g179.2.2.2.2.2.2.2.1 a0.fall.fLog,SMosOf.O g179.2.2.2.2.2.2.2.2.1 a0.fcome]++F) g188 h189 (perm_to (L:=[SQue.O g184.2.1 e.2.fQueue,blk g188 137 [vI e.2.fids.fn.fv,vI e.2.fids.fmost],blk g184.1 161 [eq g184.2.1.1,vS e.2.fself,vS e.2.fto,eq g184.2.2.1.1,eq g184.2.2.2.1],optO Fly.O g184.2.2.2 e.2.fair,thgX SSnd.O a0.fsenders z181 j,rng Value.string (fun p:OV=>eq p.1) g179.2.2.2.2.2.2.2.2.2.1 q183.1 (zipK a0.fsenders z181) (is++[j]),blk g179.1 102 [vS a0.fself,eq g179.2.1.1,eq g179.2.2.1.1,eq g179.2.2.2.1.1,eq g179.2.2.2.2.1.1,eq g179.2.2.2.2.2.1.1,eq g179.2.2.2.2.2.2.1.1,eq g179.2.2.2.2.2.2.2.1.1,eq g179.2.2.2.2.2.2.2.2.1.1,eq g179.2.2.2.2.2.2.2.2.2.1],Ctr.O g179.2.1 a0.ftick,Ctr.O g179.2.2.1 a0.fstamps,VView.O g179.2.2.2.1 a0.fall.fView,Mks.O g179.2.2.2.2.1 a0.fall.fMarks,TTab.O g179.2.2.2.2.2.1 a0.fall.fTyping,PTab.O g179.2.2.2.2.2.2.1 a0.fall.fPresence,DLog.O g179.2.2.2.2.2.2.2.1 a0.fall.fLog,SMosOf.O g179.2.2.2.2.2.2.2.2.1 a0.fcome]) (F:=F) [1,0,2,3,4,5,6,7,8,9,10,11,12,13,14] (by kernel_rfl) rfl rfl))) (fun _ _=>?_)
      refine Dn.gh (l':=fun _:Unit=>[SSnd.O p e.2,thgX SSnd.O a0.fsenders z181 j,rng Value.string (fun p:OV=>eq p.1) g179.2.2.2.2.2.2.2.2.2.1 q183.1 (zipK a0.fsenders z181) (is++[j]),blk g179.1 102 [vS a0.fself,eq g179.2.1.1,eq g179.2.2.1.1,eq g179.2.2.2.1.1,eq g179.2.2.2.2.1.1,eq g179.2.2.2.2.2.1.1,eq g179.2.2.2.2.2.2.1.1,eq g179.2.2.2.2.2.2.2.1.1,eq g179.2.2.2.2.2.2.2.2.1.1,eq g179.2.2.2.2.2.2.2.2.2.1],Ctr.O g179.2.1 a0.ftick,Ctr.O g179.2.2.1 a0.fstamps,VView.O g179.2.2.2.1 a0.fall.fView,Mks.O g179.2.2.2.2.1 a0.fall.fMarks,TTab.O g179.2.2.2.2.2.1 a0.fall.fTyping,PTab.O g179.2.2.2.2.2.2.1 a0.fall.fPresence,DLog.O g179.2.2.2.2.2.2.2.1 a0.fall.fLog,SMosOf.O g179.2.2.2.2.2.2.2.2.1 a0.fcome]++F) (gh_of (SSnd.shut (p:=p) (m:=e.2) (r:=[thgX SSnd.O a0.fsenders z181 j,rng Value.string (fun p:OV=>eq p.1) g179.2.2.2.2.2.2.2.2.2.1 q183.1 (zipK a0.fsenders z181) (is++[j]),blk g179.1 102 [vS a0.fself,eq g179.2.1.1,eq g179.2.2.1.1,eq g179.2.2.2.1.1,eq g179.2.2.2.2.1.1,eq g179.2.2.2.2.2.1.1,eq g179.2.2.2.2.2.2.1.1,eq g179.2.2.2.2.2.2.2.1.1,eq g179.2.2.2.2.2.2.2.2.1.1,eq g179.2.2.2.2.2.2.2.2.2.1],Ctr.O g179.2.1 a0.ftick,Ctr.O g179.2.2.1 a0.fstamps,VView.O g179.2.2.2.1 a0.fall.fView,Mks.O g179.2.2.2.2.1 a0.fall.fMarks,TTab.O g179.2.2.2.2.2.1 a0.fall.fTyping,PTab.O g179.2.2.2.2.2.2.1 a0.fall.fPresence,DLog.O g179.2.2.2.2.2.2.2.1 a0.fall.fLog,SMosOf.O g179.2.2.2.2.2.2.2.2.1 a0.fcome]++F) (g184.1,g184.2.1,g184.2.2.1,g184.2.2.2) h185 (perm_to (L:=[Ctr.O g184.2.2.1 e.2.fids,SQue.O g184.2.1 e.2.fQueue,blk g184.1 161 [eq g184.2.1.1,vS e.2.fself,vS e.2.fto,eq g184.2.2.1.1,eq g184.2.2.2.1],optO Fly.O g184.2.2.2 e.2.fair,thgX SSnd.O a0.fsenders z181 j,rng Value.string (fun p:OV=>eq p.1) g179.2.2.2.2.2.2.2.2.2.1 q183.1 (zipK a0.fsenders z181) (is++[j]),blk g179.1 102 [vS a0.fself,eq g179.2.1.1,eq g179.2.2.1.1,eq g179.2.2.2.1.1,eq g179.2.2.2.2.1.1,eq g179.2.2.2.2.2.1.1,eq g179.2.2.2.2.2.2.1.1,eq g179.2.2.2.2.2.2.2.1.1,eq g179.2.2.2.2.2.2.2.2.1.1,eq g179.2.2.2.2.2.2.2.2.2.1],Ctr.O g179.2.1 a0.ftick,Ctr.O g179.2.2.1 a0.fstamps,VView.O g179.2.2.2.1 a0.fall.fView,Mks.O g179.2.2.2.2.1 a0.fall.fMarks,TTab.O g179.2.2.2.2.2.1 a0.fall.fTyping,PTab.O g179.2.2.2.2.2.2.1 a0.fall.fPresence,DLog.O g179.2.2.2.2.2.2.2.1 a0.fall.fLog,SMosOf.O g179.2.2.2.2.2.2.2.2.1 a0.fcome]) (F:=F) [2,1,0,3,4,5,6,7,8,9,10,11,12,13,14] (by kernel_rfl) rfl rfl))) (fun _ _=>?_)
      refine Dn.gh (l':=fun _:Unit=>[thg SSnd.O a0.fsenders z181,rng Value.string (fun p:OV=>eq p.1) g179.2.2.2.2.2.2.2.2.2.1 q183.1 (zipK a0.fsenders z181) (is++[j]),blk g179.1 102 [vS a0.fself,eq g179.2.1.1,eq g179.2.2.1.1,eq g179.2.2.2.1.1,eq g179.2.2.2.2.1.1,eq g179.2.2.2.2.2.1.1,eq g179.2.2.2.2.2.2.1.1,eq g179.2.2.2.2.2.2.2.1.1,eq g179.2.2.2.2.2.2.2.2.1.1,eq g179.2.2.2.2.2.2.2.2.2.1],Ctr.O g179.2.1 a0.ftick,Ctr.O g179.2.2.1 a0.fstamps,VView.O g179.2.2.2.1 a0.fall.fView,Mks.O g179.2.2.2.2.1 a0.fall.fMarks,TTab.O g179.2.2.2.2.2.1 a0.fall.fTyping,PTab.O g179.2.2.2.2.2.2.1 a0.fall.fPresence,DLog.O g179.2.2.2.2.2.2.2.1 a0.fall.fLog,SMosOf.O g179.2.2.2.2.2.2.2.2.1 a0.fcome]++F) (gh_of (thg_unf he hp (pm 12 [0,1,2,3,4,5,6,7,8,9,10,11]))) (fun _ _=>?_)
      refine Dn.gh (l':=fun _:Unit=>[rng Value.string (fun p:OV=>eq p.1) g179.2.2.2.2.2.2.2.2.2.1 q183.1 (zipK a0.fsenders z181) (is++[j]),thg SSnd.O a0.fsenders z181,blk g179.1 102 [vS a0.fself,eq g179.2.1.1,eq g179.2.2.1.1,eq g179.2.2.2.1.1,eq g179.2.2.2.2.1.1,eq g179.2.2.2.2.2.1.1,eq g179.2.2.2.2.2.2.1.1,eq g179.2.2.2.2.2.2.2.1.1,eq g179.2.2.2.2.2.2.2.2.1.1,eq g179.2.2.2.2.2.2.2.2.2.1],Ctr.O g179.2.1 a0.ftick,Ctr.O g179.2.2.1 a0.fstamps,VView.O g179.2.2.2.1 a0.fall.fView,Mks.O g179.2.2.2.2.1 a0.fall.fMarks,TTab.O g179.2.2.2.2.2.1 a0.fall.fTyping,PTab.O g179.2.2.2.2.2.2.1 a0.fall.fPresence,DLog.O g179.2.2.2.2.2.2.2.1 a0.fall.fLog,SMosOf.O g179.2.2.2.2.2.2.2.2.1 a0.fcome]++F) (gh_of (st_selg (L:=[thg SSnd.O a0.fsenders z181,rng Value.string (fun p:OV=>eq p.1) g179.2.2.2.2.2.2.2.2.2.1 q183.1 (zipK a0.fsenders z181) (is++[j]),blk g179.1 102 [vS a0.fself,eq g179.2.1.1,eq g179.2.2.1.1,eq g179.2.2.2.1.1,eq g179.2.2.2.2.1.1,eq g179.2.2.2.2.2.1.1,eq g179.2.2.2.2.2.2.1.1,eq g179.2.2.2.2.2.2.2.1.1,eq g179.2.2.2.2.2.2.2.2.1.1,eq g179.2.2.2.2.2.2.2.2.2.1],Ctr.O g179.2.1 a0.ftick,Ctr.O g179.2.2.1 a0.fstamps,VView.O g179.2.2.2.1 a0.fall.fView,Mks.O g179.2.2.2.2.1 a0.fall.fMarks,TTab.O g179.2.2.2.2.2.1 a0.fall.fTyping,PTab.O g179.2.2.2.2.2.2.1 a0.fall.fPresence,DLog.O g179.2.2.2.2.2.2.2.1 a0.fall.fLog,SMosOf.O g179.2.2.2.2.2.2.2.2.1 a0.fcome]) (F:=F) [1,0,2,3,4,5,6,7,8,9,10] 0 (by kernel_rfl) rfl rfl)) (fun _ _=>?_)
      exact Back.mk (kk - 1) (is++[j]) (by omega) hC (weak_cons rfl weak_nil) (List.Perm.refl _)
theorem server_Server_View.c {a0:SSelTicStaAllComSen} {p0_:OV} {r:Unit} (h:server_Server_View.f a0 = some r):Tr Tryz.prog 12 [eq p0_.1] [SSelTicStaAllComSen.O p0_ a0] (γ:=Unit) (fun _=>True) (fun g=>npv) (fun g=>[SSelTicStaAllComSen.O p0_ a0]):=by
 unfold server_Server_View.f at h
 refine tb Tryz.func12 Tryz.ntmps12 h fun R0 F H=>?_
 refine WP.seq<|rg 1 0<|as0 rfl rfl<|.fin<|WP.seq<|rg 6 0<|mv0 rfl rfl<|Dv.nilA SSelTicStaAllComSen.nn rfl trivial rfl (mem_at 0 rfl)<|vg (SSelTicStaAllComSen.opn 0 rfl) fun g193 h194=>?_
 refine fp h194 rfl trivial rfl fa102_3<|fb rfl trivial rfl fa99_0<|ld 0 rfl trivial rfl sc33 rfl rfl<|as0 rfl rfl<|.fin<|WP.gh (gh_np 2 3 VView.nn rfl rfl) (fun _ _=>?_)
 refine wg (SSelTicStaAllComSen.shut (p:=p0_) (m:=a0) (g193.1,g193.2.1,g193.2.2.1,g193.2.2.2.1,g193.2.2.2.2.1,g193.2.2.2.2.2.1,g193.2.2.2.2.2.2.1,g193.2.2.2.2.2.2.2.1,g193.2.2.2.2.2.2.2.2.1,g193.2.2.2.2.2.2.2.2.2) h194 (pm 10 [0,1,2,3,4,5,6,7,8,9])) fun _ _=>?_
 cases H.out; exact rt i2 rfl () 1 [0] 0 (.cons (res_tmp rfl) .nil)
theorem dag_New.c {a0:ByteArray} {r:DDag} (h:dag_New.f a0 = some r):Tr Tryz.prog 150 [vS a0] [] (γ:=OV) (fun _=>True) (fun g=>eq g.1) (fun g=>[DDag.O g r]):=by
 unfold dag_New.f at h
 refine tb Tryz.func150 Tryz.ntmps150 h fun R0 F H=>?_
 refine WP.seq<|rg 1 0<|as0 rfl rfl<|.fin<|WP.seq<|rg 5 10<|mv0 rfl rfl<|Dv.mmk Value.string (fun p:OV=>eq p.1) rfl trivial nofun (fun v195=>?_)
 refine vg (mpo_new DNode.O) fun _ _=>?_
 refine Dv.bld (qs:=[vS a0,eq v195.1]) (css:=[[vS a0],[eq v195.1]]) rfl trivial Tryz.underlying274 pl274 z274 rfl ⟨(cells_one (one_eq rfl)),⟨(cells_one one_ov),trivial⟩⟩ rfl rfl<|Dv.box rfl trivial rfl cA nofun fun b196=>as0 rfl rfl<|.fin<|wg (DDag.shut (p:=(⟨.pointer (some ⟨b196,0,none⟩),rfl⟩:OV)) (m:=(⟨a0,([]:List (ByteArray×DNode))⟩:DDag)) (b196,v195) rfl (pm 2 [0,1])) fun _ _=>?_
 obtain rfl:=Gets.out H
 exact rt i2 rfl (⟨.pointer (some ⟨b196,0,none⟩),rfl⟩:OV) 1 [0] 0 (.cons (res_tmp rfl) .nil)
theorem view_View_room.r {a0:VView} {a1:ByteArray} {r:DDag} (h:view_View_room.f a0 a1 = some r):∀ x,mget a0.fdags a1 = some x→x = r:=fun x e=>by
 unfold view_View_room.f at h; rw [e] at h; exact Option.some.inj h
theorem view_View_room.c {a0:VView} {a1:ByteArray} {b0_:Nat} {v0_0:OV} {r:DDag} (h:view_View_room.f a0 a1 = some r):Tr Tryz.prog 92 [eq (.pointer (some ⟨b0_,0,none⟩)),vS a1] [blk b0_ 150 [eq v0_0.1],mpo Value.string DDag.O v0_0.1 a0.fdags] (γ:=OV) (fun _=>True) (fun g=>eq g.1) (fun g=>[blk b0_ 150 [eq v0_0.1],mpl Value.string DDag.O v0_0.1 a0.fdags a1 g,DDag.O g r]):=by
 unfold view_View_room.f at h
 refine tb Tryz.func92 Tryz.ntmps92 h fun R0 F H=>?_
 refine WP.seq<|WP.reg [(0,false)] (by kernel_rfl)<|as0 rfl rfl<|.fin<|WP.seq<|WP.seq<|WP.reg [(0,false),(1,false),(2,false),(3,false),(4,false),(5,false),(6,false)] (by kernel_rfl)<|mv0 rfl rfl<|Dv.nilp rfl trivial rfl<|Dv.fab rfl trivial rfl Tryz.underlying150 rfl Tryz.underlying148 c148 (by decide)<|Dv.ldb rfl trivial rfl Tryz.underlying148 rfl (mem_at 0 rfl) rfl<|mv0 rfl rfl<|vg (mpo_opn 1 rfl) fun z1 h1=>?_
 refine Dv.mlv nilP rfl trivial rfl (mem_at 0 rfl) rfl Tryz.underlying148 (keyOk_str Tryz.underlying9) z212 (fun _=>rfl)<|as0 rfl rfl<|.fin<|WP.seq<|WP.reg [(0,false),(1,false)] (by kernel_rfl)<|mv0 rfl rfl<|Dv.pm1 (pm_nil h1 rfl) rfl trivial rfl rfl Tryz.underlying212<|.fin<|WP.cond rfl (fun c1=>?_) (fun c1=>?_)
 ·
  have e1:(mget a0.fdags a1).isSome = true:=by cases e:mget a0.fdags a1 with | none=>rw [e] at c1; cases c1 | some _=>rfl
  have H:=H.ct e1
  obtain rfl:=Gets.out H
  refine WP.seq<|WP.reg [(0,false),(1,false)] (by kernel_rfl)<|mv0 rfl rfl<|as0 rfl rfl<|.fin<|wg (mpl_some h1 rfl e1 (pm 3 [0,1,2])) fun _ _=>?_
  exact rt i2 rfl ((mget (zipK a0.fdags z1) a1).getD nilP) 3 [2,0,1] 0 (.cons (res_tmp rfl) .nil)
 have e1:(mget a0.fdags a1).isSome = false:=by cases e:mget a0.fdags a1 with | none=>rfl | some _=>rw [e] at c1; cases c1
 have H:=H.cf e1
 refine WP.skip<|WP.seq<|WP.reg [(0,false),(1,true),(2,false)] (by kernel_rfl)<|mv0 rfl rfl<|cx 0 [] cal150 (dag_New.c (by obtain ⟨_,e,rfl⟩:=H; exact e)) nofun fun g2 _=>?_
 refine as0 rfl rfl<|.fin<|wg (mpl_none g2 h1 rfl e1 (pm 4 [1,2,0,3])) fun _ _=>?_
 exact rt i2 rfl g2 3 [2,0,1] 0 (.cons (res_tmp rfl) .nil)
theorem stringslite_Index.c {a0:ByteArray} {a1:ByteArray} {r:Int} (h:stringslite_Index.f a0 a1 = some r):Pt Tryz.prog 283 [vS a0,vS a1] (vI r):=by
 unfold stringslite_Index.f at h
 refine pb Tryz.func283 Tryz.ntmps283 h fun R0 F H=>?_
 refine WP.seq<|rg 1 0<|as0 rfl rfl<|.fin<|WP.seq<|rg 3 0<|mv0 rfl rfl<|Dv.lens rfl trivial rfl Tryz.underlying9<|as0 rfl rfl<|.fin<|WP.seq<|WP.block<|WP.seq<|rg 8 0<|mv0 rfl rfl<|bn0 rfl rfl rfl run_eq<|mv0 rfl rfl ?_
 cases c197:((a1.size:Int) == 0)
 rotate_left
 ·
  have H:=H.ct c197
  refine sk rfl rfl<|sk rfl rfl<|sk rfl rfl<|pt0 rfl rfl rfl<|as0 rfl rfl<|.fin<|WP.cond rfl (fun _=>?_) nofun
  refine WP.seq<|rg 1 0<|as0 rfl rfl<|.fin ?_
  cases H.out; exact r0 i2 rfl (.cons (res_tmp rfl) .nil)
 have H:=H.cf c197
 refine mvg rfl rfl rfl<|mvg rfl rfl rfl<|bng rfl rfl rfl rfl run_seq<|pf0 rfl rfl rfl<|as0 rfl rfl<|.fin<|cd H rfl (fun _ H=>?_) (fun _ H=>?_)
 ·
  refine WP.seq<|rg 1 0<|as0 rfl rfl<|.fin ?_
  cases H.out; exact r0 i2 rfl (.cons (res_tmp rfl) .nil)
 refine WP.seq<|rg 3 0<|mv0 rfl rfl<|bn0 rfl rfl rfl run_eq<|as0 rfl rfl<|.fin<|cd H rfl (fun _ H=>?_) (fun _ H=>?_)
 ·
  refine WP.seq<|rg 5 0<|mv0 rfl rfl<|mv0 rfl rfl<|gr H fun g201 H=>Dv.ixs rfl trivial rfl rfl Tryz.underlying9 g201.1 g201.2<|el H fun t202 h203 H=>cl rfl cal221 rfl (stringslite_IndexByte.c h203)<|as0 rfl rfl<|.fin ?_
  cases H.out; exact r0 i2 rfl (.cons (res_tmp rfl) .nil)
 refine WP.seq<|rg 5 0<|mv0 rfl rfl<|mv0 rfl rfl<|Dv.lens rfl trivial rfl Tryz.underlying9<|bn0 rfl rfl rfl run_ge<|as0 rfl rfl<|.fin<|cd H rfl (fun _ H=>?_) (fun _ H=>?_)
 rotate_left
 ·
  exact (Gets.no H).elim
 refine WP.seq<|rg 1 0<|as0 rfl rfl<|.fin ?_
 cases H.out; exact r0 i2 rfl (.cons (res_tmp rfl) .nil)
theorem stringslite_Cut.c {a0:ByteArray} {a1:ByteArray} {r:ByteArray×ByteArray×Bool} (h:stringslite_Cut.f a0 a1 = some r):Pt Tryz.prog 257 [vS a0,vS a1] (tup [vS r.1,vS r.2.1,vB r.2.2]):=by
 unfold stringslite_Cut.f at h
 refine pb Tryz.func257 Tryz.ntmps257 h fun R0 F H=>?_
 refine WP.seq<|rg 3 0<|as0 rfl rfl<|as0 rfl rfl<|as0 rfl rfl<|.fin<|WP.seq<|WP.seq<|rg 4 0<|mv0 rfl rfl<|mv0 rfl rfl<|el H fun t205 h206 H=>cl rfl cal283 rfl (stringslite_Index.c h206)<|as0 rfl rfl<|.fin<|WP.seq<|rg 2 0<|mv0 rfl rfl<|bn0 rfl rfl rfl run_ge<|.fin<|cd H rfl (fun _ H=>?_) (fun _ H=>?_)
 rotate_left
 ·
  refine WP.skip<|WP.seq<|rg 4 0<|mv0 rfl rfl<|as0 rfl rfl<|as0 rfl rfl<|as0 rfl rfl<|.fin ?_
  cases H.out; exact r0 i2 rfl (.cons (res_tmp rfl) (.cons (res_tmp rfl) (.cons (res_tmp rfl) .nil)))
 refine WP.seq<|dg Tryz.checked.mixed 12 0<|mv0 rfl rfl<|mv0 rfl rfl<|gr H fun g208 H=>Dv.sss rfl trivial rfl Tryz.underlying9 bdE_none (bdE_some rfl g208.1) g208.2.1 g208.2.2<|mv0 rfl rfl<|mv0 rfl rfl<|mv0 rfl rfl<|Dv.lens rfl trivial rfl Tryz.underlying9<|bn0 rfl rfl rfl run_add<|gr H fun g209 H=>Dv.sss rfl trivial rfl Tryz.underlying9 (bdE_some rfl g209.1) bdE_none g209.2.1 g209.2.2<|as0 rfl rfl<|as0 rfl rfl<|as0 rfl rfl<|.fin ?_
 cases H.out; exact r0 i2 rfl (.cons (res_tmp rfl) (.cons (res_tmp rfl) (.cons (res_tmp rfl) .nil)))
theorem strings_Cut.c {a0:ByteArray} {a1:ByteArray} {r:ByteArray×ByteArray×Bool} (h:strings_Cut.f a0 a1 = some r):Pt Tryz.prog 204 [vS a0,vS a1] (tup [vS r.1,vS r.2.1,vB r.2.2]):=by
 unfold strings_Cut.f at h
 refine pb Tryz.func204 Tryz.ntmps204 h fun R0 F H=>?_
 refine WP.seq<|rg 3 0<|as0 rfl rfl<|as0 rfl rfl<|as0 rfl rfl<|.fin<|WP.seq<|rg 9 0<|mv0 rfl rfl<|mv0 rfl rfl<|el H fun t210 h211 H=>cl rfl cal257 rfl (stringslite_Cut.c h211)<|ex0 rfl trivial rfl rfl<|ex0 rfl trivial rfl rfl<|ex0 rfl trivial rfl rfl<|as0 rfl rfl<|as0 rfl rfl<|as0 rfl rfl<|.fin ?_
 cases H.out; exact r0 i2 rfl (.cons (res_tmp rfl) (.cons (res_tmp rfl) (.cons (res_tmp rfl) .nil)))
theorem stringslite_HasPrefix.c {a0:ByteArray} {a1:ByteArray} {r:Bool} (h:stringslite_HasPrefix.f a0 a1 = some r):Pt Tryz.prog 297 [vS a0,vS a1] (vB r):=by
 unfold stringslite_HasPrefix.f at h
 refine pb Tryz.func297 Tryz.ntmps297 h fun R0 F H=>?_
 refine WP.seq<|rg 1 0<|as0 rfl rfl<|.fin<|WP.seq<|rg 14 0<|mv0 rfl rfl<|Dv.lens rfl trivial rfl Tryz.underlying9<|mv0 rfl rfl<|Dv.lens rfl trivial rfl Tryz.underlying9<|bn0 rfl rfl rfl run_ge<|mv0 rfl rfl ?_
 cases c212:decide ((a1.size:Int)≤(a0.size:Int))
 ·
  have H:=H.cf c212
  refine sk rfl rfl<|sk rfl rfl<|sk rfl rfl<|sk rfl rfl<|sk rfl rfl<|sk rfl rfl<|pf0 rfl rfl rfl<|as0 rfl rfl<|.fin ?_
  cases H.out; exact r0 i2 rfl (.cons (res_tmp rfl) .nil)
 have H:=H.ct c212
 refine mvg rfl rfl rfl<|mvg rfl rfl rfl<|Dv.lens rfl (gg rfl) rfl Tryz.underlying9<|gr H fun g213 H=>Dv.sss rfl (gg rfl) rfl Tryz.underlying9 bdE_none (bdE_some rfl g213.1) g213.2.1 g213.2.2<|mvg rfl rfl rfl<|bng rfl rfl rfl rfl run_seq<|pt0 rfl rfl rfl<|as0 rfl rfl<|.fin ?_
 cases H.out; exact r0 i2 rfl (.cons (res_tmp rfl) .nil)
theorem stringslite_CutPrefix.c {a0:ByteArray} {a1:ByteArray} {r:ByteArray×Bool} (h:stringslite_CutPrefix.f a0 a1 = some r):Pt Tryz.prog 289 [vS a0,vS a1] (tup [vS r.1,vB r.2]):=by
 unfold stringslite_CutPrefix.f at h
 refine pb Tryz.func289 Tryz.ntmps289 h fun R0 F H=>?_
 refine WP.seq<|rg 2 0<|as0 rfl rfl<|as0 rfl rfl<|.fin<|WP.seq<|WP.seq<|rg 4 0<|mv0 rfl rfl<|mv0 rfl rfl<|el H fun t214 h215 H=>cl rfl cal297 rfl (stringslite_HasPrefix.c h215)<|un0 rfl rfl (run_not _)<|.fin<|cd H rfl (fun _ H=>?_) (fun _ H=>?_)
 ·
  refine WP.seq<|rg 3 0<|mv0 rfl rfl<|as0 rfl rfl<|as0 rfl rfl<|.fin ?_
  cases H.out; exact r0 i2 rfl (.cons (res_tmp rfl) (.cons (res_tmp rfl) .nil))
 refine WP.skip<|WP.seq<|rg 6 0<|mv0 rfl rfl<|mv0 rfl rfl<|Dv.lens rfl trivial rfl Tryz.underlying9<|gr H fun g217 H=>Dv.sss rfl trivial rfl Tryz.underlying9 (bdE_some rfl g217.1) bdE_none g217.2.1 g217.2.2<|as0 rfl rfl<|as0 rfl rfl<|.fin ?_
 cases H.out; exact r0 i2 rfl (.cons (res_tmp rfl) (.cons (res_tmp rfl) .nil))
theorem strings_CutPrefix.c {a0:ByteArray} {a1:ByteArray} {r:ByteArray×Bool} (h:strings_CutPrefix.f a0 a1 = some r):Pt Tryz.prog 274 [vS a0,vS a1] (tup [vS r.1,vB r.2]):=by
 unfold strings_CutPrefix.f at h
 refine pb Tryz.func274 Tryz.ntmps274 h fun R0 F H=>?_
 refine WP.seq<|rg 2 0<|as0 rfl rfl<|as0 rfl rfl<|.fin<|WP.seq<|rg 7 0<|mv0 rfl rfl<|mv0 rfl rfl<|el H fun t218 h219 H=>cl rfl cal289 rfl (stringslite_CutPrefix.c h219)<|ex0 rfl trivial rfl rfl<|ex0 rfl trivial rfl rfl<|as0 rfl rfl<|as0 rfl rfl<|.fin ?_
 cases H.out; exact r0 i2 rfl (.cons (res_tmp rfl) (.cons (res_tmp rfl) .nil))
theorem name_split.c {k:Nat} {a0:ByteArray} {a1:ByteArray} {r:ByteArray×ByteArray×Bool} (h:name_split.f k a0 a1 = some r):Pt Tryz.prog 256 [vS a0,vS a1] (tup [vS r.1,vS r.2.1,vB r.2.2]):=by
 unfold name_split.f at h
 refine pb Tryz.func256 Tryz.ntmps256 h fun R0 F H=>?_
 refine WP.seq<|rg 3 0<|as0 rfl rfl<|as0 rfl rfl<|as0 rfl rfl<|.fin<|WP.seq<|rg 8 0<|mv0 rfl rfl<|mv0 rfl rfl<|el H fun t220 h221 H=>cl rfl cal274 rfl (strings_CutPrefix.c h221)<|mv0 rfl rfl<|ex0 rfl trivial rfl rfl<|ex0 rfl trivial rfl rfl<|as0 rfl rfl<|as0 rfl rfl<|.fin<|WP.seq<|rg 9 0<|mv0 rfl rfl<|el H fun t222 h223 H=>cl rfl cal204 rfl (strings_Cut.c h223)<|mv0 rfl rfl<|ex0 rfl trivial rfl rfl<|ex0 rfl trivial rfl rfl<|ex0 rfl trivial rfl rfl<|as0 rfl rfl<|as0 rfl rfl<|as0 rfl rfl<|.fin<|WP.seq<|rg 17 0<|mv0 rfl rfl<|mv0 rfl rfl<|mv0 rfl rfl<|mv0 rfl rfl ?_
 cases c224:t220.2
 ·
  have H:=H.cf c224
  refine sk rfl rfl<|pf0 rfl rfl rfl<|mv0 rfl rfl<|sk rfl rfl<|sk rfl rfl<|pf0 rfl rfl rfl<|mv0 rfl rfl<|sk rfl rfl<|sk rfl rfl<|pf0 rfl rfl rfl<|as0 rfl rfl<|as0 rfl rfl<|as0 rfl rfl<|.fin ?_
  cases H.out; exact r0 i2 rfl (.cons (res_tmp rfl) (.cons (res_tmp rfl) (.cons (res_tmp rfl) .nil)))
 have H:=H.ct c224
 refine mvg rfl rfl rfl<|pt0 rfl rfl rfl<|mv0 rfl rfl ?_
 cases c225:t222.2.2
 ·
  have H:=H.cf c225
  refine sk rfl rfl<|sk rfl rfl<|pf0 rfl rfl rfl<|mv0 rfl rfl<|sk rfl rfl<|sk rfl rfl<|pf0 rfl rfl rfl<|as0 rfl rfl<|as0 rfl rfl<|as0 rfl rfl<|.fin ?_
  cases H.out; exact r0 i2 rfl (.cons (res_tmp rfl) (.cons (res_tmp rfl) (.cons (res_tmp rfl) .nil)))
 have H:=H.ct c225
 refine mvg rfl rfl rfl<|el H fun t226 h227 H=>Dv.call rfl (gg rfl) cal55 rfl (name_may.c h227)<|pt0 rfl rfl rfl<|mv0 rfl rfl ?_
 cases c228:t226
 ·
  have H:=H.cf c228
  refine sk rfl rfl<|sk rfl rfl<|pf0 rfl rfl rfl<|as0 rfl rfl<|as0 rfl rfl<|as0 rfl rfl<|.fin ?_
  cases H.out; exact r0 i2 rfl (.cons (res_tmp rfl) (.cons (res_tmp rfl) (.cons (res_tmp rfl) .nil)))
 have H:=H.ct c228
 refine mvg rfl rfl rfl<|el H fun t229 h230 H=>Dv.call rfl (gg rfl) cal26 rfl (name_Server.c h230)<|pt0 rfl rfl rfl<|as0 rfl rfl<|as0 rfl rfl<|as0 rfl rfl<|.fin ?_
 cases H.out; exact r0 i2 rfl (.cons (res_tmp rfl) (.cons (res_tmp rfl) (.cons (res_tmp rfl) .nil)))
theorem name_User.c {k:Nat} {a0:ByteArray} {r:Bool} (h:name_User.f k a0 = some r):Pt Tryz.prog 202 [vS a0] (vB r):=by
 unfold name_User.f at h
 refine pb Tryz.func202 Tryz.ntmps202 h fun R0 F H=>?_
 refine WP.seq<|rg 1 0<|as0 rfl rfl<|.fin<|WP.seq<|rg 9 0<|mv0 rfl rfl<|el H fun t231 h232 H=>cl rfl cal256 rfl (name_split.c h232)<|mv0 rfl rfl<|ex0 rfl trivial rfl rfl<|ex0 rfl trivial rfl rfl<|ex0 rfl trivial rfl rfl<|as0 rfl rfl<|as0 rfl rfl<|as0 rfl rfl<|.fin<|WP.seq<|rg 2 0<|mv0 rfl rfl<|as0 rfl rfl<|.fin ?_
 cases H.out; exact r0 i2 rfl (.cons (res_tmp rfl) .nil)
theorem name_Room.c {k:Nat} {a0:ByteArray} {r:Bool} (h:name_Room.f k a0 = some r):Pt Tryz.prog 203 [vS a0] (vB r):=by
 unfold name_Room.f at h
 refine pb Tryz.func203 Tryz.ntmps203 h fun R0 F H=>?_
 refine WP.seq<|rg 1 0<|as0 rfl rfl<|.fin<|WP.seq<|rg 9 0<|mv0 rfl rfl<|el H fun t233 h234 H=>cl rfl cal256 rfl (name_split.c h234)<|mv0 rfl rfl<|ex0 rfl trivial rfl rfl<|ex0 rfl trivial rfl rfl<|ex0 rfl trivial rfl rfl<|as0 rfl rfl<|as0 rfl rfl<|as0 rfl rfl<|.fin<|WP.seq<|rg 2 0<|mv0 rfl rfl<|as0 rfl rfl<|.fin ?_
 cases H.out; exact r0 i2 rfl (.cons (res_tmp rfl) .nil)
theorem name_Event.c {k:Nat} {a0:ByteArray} {r:Bool} (h:name_Event.f k a0 = some r):Pt Tryz.prog 222 [vS a0] (vB r):=by
 unfold name_Event.f at h
 refine pb Tryz.func222 Tryz.ntmps222 h fun R0 F H=>?_
 refine WP.seq<|rg 1 0<|as0 rfl rfl<|.fin<|WP.seq<|rg 7 0<|mv0 rfl rfl<|el H fun t235 h236 H=>cl rfl cal274 rfl (strings_CutPrefix.c h236)<|mv0 rfl rfl<|ex0 rfl trivial rfl rfl<|ex0 rfl trivial rfl rfl<|as0 rfl rfl<|as0 rfl rfl<|.fin<|WP.seq<|rg 6 0<|mv0 rfl rfl<|mv0 rfl rfl ?_
 cases c237:t235.2
 ·
  have H:=H.cf c237
  refine sk rfl rfl<|sk rfl rfl<|pf0 rfl rfl rfl<|as0 rfl rfl<|.fin ?_
  cases H.out; exact r0 i2 rfl (.cons (res_tmp rfl) .nil)
 have H:=H.ct c237
 refine mvg rfl rfl rfl<|el H fun t238 h239 H=>Dv.call rfl (gg rfl) cal55 rfl (name_may.c h239)<|pt0 rfl rfl rfl<|as0 rfl rfl<|.fin ?_
 cases H.out; exact r0 i2 rfl (.cons (res_tmp rfl) .nil)
theorem dag_May.c {k:Nat} {a0:Event} {r:Bool} (h:dag_May.f k a0 = some r):Pt Tryz.prog 151 [agg (Event.enc a0)] (vB r):=by
 unfold dag_May.f at h
 refine pb Tryz.func151 Tryz.ntmps151 h fun R0 F H=>?_
 refine WP.seq<|rg 2 1<|Dv.box rfl trivial rfl cA nofun fun b240=>as0 rfl rfl<|.fin<|WP.scope<|WP.seq<|WP.seq<|rg 32 0<|fb rfl trivial rfl fa107_0<|ld 0 rfl trivial rfl sc9 rfl rfl<|el H fun t241 h242 H=>cl rfl cal222 rfl (name_Event.c h242)<|un0 rfl rfl (run_not _)<|mv0 rfl rfl ?_
 cases c243:!t241
 rotate_left
 ·
  have H:=H.ct c243
  refine sk rfl rfl<|sk rfl rfl<|sk rfl rfl<|sk rfl rfl<|pt0 rfl rfl rfl<|mv0 rfl rfl<|sk rfl rfl<|sk rfl rfl<|sk rfl rfl<|sk rfl rfl<|pt0 rfl rfl rfl<|mv0 rfl rfl<|sk rfl rfl<|sk rfl rfl<|sk rfl rfl<|sk rfl rfl<|pt0 rfl rfl rfl<|mv0 rfl rfl<|sk rfl rfl<|sk rfl rfl<|sk rfl rfl<|pt0 rfl rfl rfl<|mv0 rfl rfl<|sk rfl rfl<|sk rfl rfl<|sk rfl rfl<|pt0 rfl rfl rfl<|.fin<|WP.cond rfl (fun _=>?_) nofun
  refine WP.seq<|rg 1 0<|as0 rfl rfl<|.fin ?_
  cases H.out; exact r1 i2 rfl (.cons (res_tmp rfl) .nil)
 have H:=H.cf c243
 refine fb rfl (gg rfl) rfl fa107_1<|ld 0 rfl (gg rfl) rfl sc9 rfl rfl<|el H fun t245 h246 H=>Dv.call rfl (gg rfl) cal203 rfl (name_Room.c h246)<|ung rfl rfl rfl (run_not _)<|pf0 rfl rfl rfl<|mv0 rfl rfl ?_
 cases c247:!t245
 rotate_left
 ·
  have H:=H.ct c247
  refine sk rfl rfl<|sk rfl rfl<|sk rfl rfl<|sk rfl rfl<|pt0 rfl rfl rfl<|mv0 rfl rfl<|sk rfl rfl<|sk rfl rfl<|sk rfl rfl<|sk rfl rfl<|pt0 rfl rfl rfl<|mv0 rfl rfl<|sk rfl rfl<|sk rfl rfl<|sk rfl rfl<|pt0 rfl rfl rfl<|mv0 rfl rfl<|sk rfl rfl<|sk rfl rfl<|sk rfl rfl<|pt0 rfl rfl rfl<|.fin<|WP.cond rfl (fun _=>?_) nofun
  refine WP.seq<|rg 1 0<|as0 rfl rfl<|.fin ?_
  cases H.out; exact r1 i2 rfl (.cons (res_tmp rfl) .nil)
 have H:=H.cf c247
 refine fb rfl (gg rfl) rfl fa107_4<|ld 0 rfl (gg rfl) rfl sc9 rfl rfl<|el H fun t249 h250 H=>Dv.call rfl (gg rfl) cal202 rfl (name_User.c h250)<|ung rfl rfl rfl (run_not _)<|pf0 rfl rfl rfl<|mv0 rfl rfl ?_
 cases c251:!t249
 rotate_left
 ·
  have H:=H.ct c251
  refine sk rfl rfl<|sk rfl rfl<|sk rfl rfl<|sk rfl rfl<|pt0 rfl rfl rfl<|mv0 rfl rfl<|sk rfl rfl<|sk rfl rfl<|sk rfl rfl<|pt0 rfl rfl rfl<|mv0 rfl rfl<|sk rfl rfl<|sk rfl rfl<|sk rfl rfl<|pt0 rfl rfl rfl<|.fin<|WP.cond rfl (fun _=>?_) nofun
  refine WP.seq<|rg 1 0<|as0 rfl rfl<|.fin ?_
  cases H.out; exact r1 i2 rfl (.cons (res_tmp rfl) .nil)
 have H:=H.cf c251
 refine fb rfl (gg rfl) rfl fa107_2<|ld 0 rfl (gg rfl) rfl sc23 rfl rfl<|Dv.lenl rfl (gg rfl) rfl Tryz.underlying23<|bng rfl rfl rfl rfl run_gt<|pf0 rfl rfl rfl<|mv0 rfl rfl ?_
 cases c253:decide (4 < (a0.fParents.length:Int))
 rotate_left
 ·
  have H:=H.ct c253
  refine sk rfl rfl<|sk rfl rfl<|sk rfl rfl<|pt0 rfl rfl rfl<|mv0 rfl rfl<|sk rfl rfl<|sk rfl rfl<|sk rfl rfl<|pt0 rfl rfl rfl<|.fin<|WP.cond rfl (fun _=>?_) nofun
  refine WP.seq<|rg 1 0<|as0 rfl rfl<|.fin ?_
  cases H.out; exact r1 i2 rfl (.cons (res_tmp rfl) .nil)
 have H:=H.cf c253
 refine fb rfl (gg rfl) rfl fa107_5<|ld 0 rfl (gg rfl) rfl sc3 rfl rfl<|bng rfl rfl rfl rfl run_lt<|pf0 rfl rfl rfl<|mv0 rfl rfl ?_
 cases c255:decide (a0.fDoes < 0)
 rotate_left
 ·
  have H:=H.ct c255
  refine sk rfl rfl<|sk rfl rfl<|sk rfl rfl<|pt0 rfl rfl rfl<|.fin<|WP.cond rfl (fun _=>?_) nofun
  refine WP.seq<|rg 1 0<|as0 rfl rfl<|.fin ?_
  cases H.out; exact r1 i2 rfl (.cons (res_tmp rfl) .nil)
 have H:=H.cf c255
 refine fb rfl (gg rfl) rfl fa107_5<|ld 0 rfl (gg rfl) rfl sc3 rfl rfl<|bng rfl rfl rfl rfl run_gt<|pf0 rfl rfl rfl<|.fin<|cd H rfl (fun _ H=>?_) (fun _ H=>?_)
 ·
  refine WP.seq<|rg 1 0<|as0 rfl rfl<|.fin ?_
  cases H.out; exact r1 i2 rfl (.cons (res_tmp rfl) .nil)
 refine WP.skip<|WP.seq<|WP.seq<|rg 21 0<|fb rfl trivial rfl fa107_3<|ld 0 rfl trivial rfl sc9 rfl rfl<|bn0 rfl rfl rfl run_sne<|mv0 rfl rfl ?_
 cases c258:!decide (a0.fThread = (⟨#[]⟩:ByteArray))
 ·
  have H:=H.cf c258
  refine sk rfl rfl<|sk rfl rfl<|sk rfl rfl<|sk rfl rfl<|sk rfl rfl<|sku rfl rfl<|sku rfl rfl<|sku rfl rfl<|sku rfl rfl<|sku rfl rfl<|sk rfl rfl<|sk rfl rfl<|sku rfl rfl<|sku rfl rfl<|sku rfl rfl<|sk rfl rfl<|pf0 rfl rfl rfl<|.fin<|WP.cond rfl nofun (fun _=>?_)
  refine WP.skip<|WP.seq<|rg 1 0<|as0 rfl rfl<|.fin<|WP.seq<|WP.label<|WP.seqn H id (fun p283:Bool×Int×Bool=>[(3,vB p283.1)]) (fun p283:Bool×Int×Bool=>[blk b240 107 (Event.enc a0)]++F) (fun p283 H=>?_) (fun H=>?_)
  ·
   refine WP.seq<|rg 2 0<|mv0 rfl rfl<|as0 rfl rfl<|.fin ?_
   cases H.out; exact r1 i2 rfl (.cons (res_tmp rfl) .nil)
  refine WP.seq<|rg 4 0<|fb rfl trivial rfl fa107_2<|ld 0 rfl trivial rfl sc23 rfl rfl<|Dv.lenl rfl trivial rfl Tryz.underlying23<|mv0 rfl rfl<|.fin<|WP.block<|wg (sg 1 [0] 0) fun _ _=>?_
  refine lp (fun j_ (p298:Int)=>dag_May.l1 k a0 j_ p298) 0 H (fun p298=>[(1,eq (.pointer (some ⟨b240,0,none⟩))),(3,vB true),(60,sl strK a0.fParents),(61,vI (a0.fParents.length:Int)),(62,vI p298)]) (fun p298=>[blk b240 107 (Event.enc a0)]++F) ?_
  rintro j_ x284 H
  rcases j_ with _ | j297
  ·
   exact (Gets.no H).elim
  try dsimp only at H
  rw [dag_May.l1] at H
  refine WP.seq<|rg 1 0<|bn0 rfl rfl rfl run_lt<|.fin<|WP.seq<|cd H rfl (fun _ H=>?_) (fun _ H=>?_)
  rotate_left
  ·
   refine WP.exit ?_
   have H:=H.out
   exact jn (true,x284,decide (x284 < (a0.fParents.length:Int))) H
  refine WP.skip<|WP.seq<|WP.block<|WP.seq<|rg 5 0<|mv0 rfl rfl<|gr H fun g286 H=>Dv.ixr rfl trivial rfl rfl Tryz.underlying23 Tryz.underlying9 c9 g286.1 g286.2<|ldR rfl trivial rfl sc9 rfl<|as0 rfl rfl<|as0 rfl rfl<|.fin<|WP.seq<|rg 23 0<|mv0 rfl rfl<|el H fun t287 h288 H=>cl rfl cal222 rfl (name_Event.c h288)<|un0 rfl rfl (run_not _)<|mv0 rfl rfl ?_
  cases c289:!t287
  rotate_left
  ·
   have H:=H.ct c289
   refine sk rfl rfl<|sk rfl rfl<|sk rfl rfl<|sk rfl rfl<|pt0 rfl rfl rfl<|mv0 rfl rfl<|sk rfl rfl<|sk rfl rfl<|sk rfl rfl<|sku rfl rfl<|sku rfl rfl<|sku rfl rfl<|sku rfl rfl<|sku rfl rfl<|sku rfl rfl<|sku rfl rfl<|sku rfl rfl<|sk rfl rfl<|pt0 rfl rfl rfl<|.fin<|WP.cond rfl (fun _=>?_) nofun
   refine WP.seq<|rg 1 0<|as0 rfl rfl<|.fin<|WP.exit ?_
   have H:=H.out
   exact jn (false,x284,decide (x284 < (a0.fParents.length:Int))) H
  have H:=H.cf c289
  refine mvg rfl rfl rfl<|fb rfl (gg rfl) rfl fa107_0<|ld 0 rfl (gg rfl) rfl sc9 rfl rfl<|bng rfl rfl rfl rfl run_seq<|pf0 rfl rfl rfl<|mv0 rfl rfl ?_
  cases c291:decide ((strK.at a0.fParents x284) = a0.fID)
  rotate_left
  ·
   have H:=H.ct c291
   refine sk rfl rfl<|sk rfl rfl<|sk rfl rfl<|sku rfl rfl<|sku rfl rfl<|sku rfl rfl<|sku rfl rfl<|sku rfl rfl<|sku rfl rfl<|sku rfl rfl<|sku rfl rfl<|sk rfl rfl<|pt0 rfl rfl rfl<|.fin<|WP.cond rfl (fun _=>?_) nofun
   refine WP.seq<|rg 1 0<|as0 rfl rfl<|.fin<|WP.exit ?_
   have H:=H.out
   exact jn (false,x284,decide (x284 < (a0.fParents.length:Int))) H
  have H:=H.cf c291
  refine mvg rfl rfl rfl<|bng rfl rfl rfl rfl run_gt<|mvg rfl rfl rfl ?_
  cases c293:decide (0 < x284)
  ·
   have H:=H.cf c293
   refine sk rfl rfl<|sk rfl rfl<|sk rfl rfl<|sk rfl rfl<|sk rfl rfl<|sk rfl rfl<|sk rfl rfl<|sk rfl rfl<|pfg rfl rfl rfl rfl<|pf0 rfl rfl rfl<|.fin<|WP.cond rfl nofun (fun _=>?_)
   exact WP.skip<|rg 2 0<|bn0 rfl rfl rfl run_add<|mv0 rfl rfl<|.fin<|bk j297 (w64 (x284 + 1)) H
  have H:=H.ct c293
  refine mvg rfl rfl rfl<|fb rfl (gg rfl) rfl fa107_2<|ld 0 rfl (gg rfl) rfl sc23 rfl rfl<|mvg rfl rfl rfl<|bng rfl rfl rfl rfl run_sub<|gr H fun g294 H=>Dv.ixr rfl (gg rfl) rfl rfl Tryz.underlying23 Tryz.underlying9 c9 g294.1 g294.2<|ldR rfl (gg rfl) rfl sc9 rfl<|bng rfl rfl rfl rfl run_sle<|ptg rfl rfl rfl rfl<|pf0 rfl rfl rfl<|.fin<|cd H rfl (fun _ H=>?_) (fun _ H=>?_)
  rotate_left
  ·
   exact WP.skip<|rg 2 0<|bn0 rfl rfl rfl run_add<|mv0 rfl rfl<|.fin<|bk j297 (w64 (x284 + 1)) H
  refine WP.seq<|rg 1 0<|as0 rfl rfl<|.fin<|WP.exit ?_
  have H:=H.out
  exact jn (false,x284,decide (x284 < (a0.fParents.length:Int))) H
 have H:=H.ct c258
 refine fb rfl (gg rfl) rfl fa107_3<|ld 0 rfl (gg rfl) rfl sc9 rfl rfl<|el H fun t259 h260 H=>Dv.call rfl (gg rfl) cal222 rfl (name_Event.c h260)<|ung rfl rfl rfl (run_not _)<|mvg rfl rfl rfl ?_
 cases c261:!t259
 rotate_left
 ·
  have H:=H.ct c261
  refine sk rfl rfl<|sk rfl rfl<|sk rfl rfl<|sk rfl rfl<|sk rfl rfl<|ptg rfl rfl rfl rfl<|mvg rfl rfl rfl<|sk rfl rfl<|sk rfl rfl<|sk rfl rfl<|ptg rfl rfl rfl rfl<|pt0 rfl rfl rfl<|.fin<|WP.cond rfl (fun _=>?_) nofun
  refine WP.seq<|rg 1 0<|as0 rfl rfl<|.fin ?_
  cases H.out; exact r1 i2 rfl (.cons (res_tmp rfl) .nil)
 have H:=H.cf c261
 refine fb rfl (gg rfl) rfl fa107_3<|ld 0 rfl (gg rfl) rfl sc9 rfl rfl<|fb rfl (gg rfl) rfl fa107_0<|ld 0 rfl (gg rfl) rfl sc9 rfl rfl<|bng rfl rfl rfl rfl run_seq<|pfg rfl rfl rfl rfl<|mvg rfl rfl rfl ?_
 cases c263:decide (a0.fThread = a0.fID)
 rotate_left
 ·
  have H:=H.ct c263
  refine sk rfl rfl<|sk rfl rfl<|sk rfl rfl<|ptg rfl rfl rfl rfl<|pt0 rfl rfl rfl<|.fin<|WP.cond rfl (fun _=>?_) nofun
  refine WP.seq<|rg 1 0<|as0 rfl rfl<|.fin ?_
  cases H.out; exact r1 i2 rfl (.cons (res_tmp rfl) .nil)
 have H:=H.cf c263
 refine fb rfl (gg rfl) rfl fa107_5<|ld 0 rfl (gg rfl) rfl sc3 rfl rfl<|bng rfl rfl rfl rfl run_ne<|pfg rfl rfl rfl rfl<|pt0 rfl rfl rfl<|.fin<|cd H rfl (fun _ H=>?_) (fun _ H=>?_)
 ·
  refine WP.seq<|rg 1 0<|as0 rfl rfl<|.fin ?_
  cases H.out; exact r1 i2 rfl (.cons (res_tmp rfl) .nil)
 refine WP.skip<|WP.seq<|rg 1 0<|as0 rfl rfl<|.fin<|WP.seq<|WP.label<|WP.seqn H id (fun p266:Bool×Int×Bool=>[(3,vB p266.1)]) (fun p266:Bool×Int×Bool=>[blk b240 107 (Event.enc a0)]++F) (fun p266 H=>?_) (fun H=>?_)
 ·
  refine WP.seq<|rg 2 0<|mv0 rfl rfl<|as0 rfl rfl<|.fin ?_
  cases H.out; exact r1 i2 rfl (.cons (res_tmp rfl) .nil)
 refine WP.seq<|rg 4 0<|fb rfl trivial rfl fa107_2<|ld 0 rfl trivial rfl sc23 rfl rfl<|Dv.lenl rfl trivial rfl Tryz.underlying23<|mv0 rfl rfl<|.fin<|WP.block<|wg (sg 1 [0] 0) fun _ _=>?_
 refine lp (fun j_ (p281:Int)=>dag_May.l0 k a0 j_ p281) 0 H (fun p281=>[(1,eq (.pointer (some ⟨b240,0,none⟩))),(3,vB true),(60,sl strK a0.fParents),(61,vI (a0.fParents.length:Int)),(62,vI p281)]) (fun p281=>[blk b240 107 (Event.enc a0)]++F) ?_
 rintro j_ x267 H
 rcases j_ with _ | j280
 ·
  exact (Gets.no H).elim
 try dsimp only at H
 rw [dag_May.l0] at H
 refine WP.seq<|rg 1 0<|bn0 rfl rfl rfl run_lt<|.fin<|WP.seq<|cd H rfl (fun _ H=>?_) (fun _ H=>?_)
 rotate_left
 ·
  refine WP.exit ?_
  have H:=H.out
  exact jn (true,x267,decide (x267 < (a0.fParents.length:Int))) H
 refine WP.skip<|WP.seq<|WP.block<|WP.seq<|rg 5 0<|mv0 rfl rfl<|gr H fun g269 H=>Dv.ixr rfl trivial rfl rfl Tryz.underlying23 Tryz.underlying9 c9 g269.1 g269.2<|ldR rfl trivial rfl sc9 rfl<|as0 rfl rfl<|as0 rfl rfl<|.fin<|WP.seq<|rg 23 0<|mv0 rfl rfl<|el H fun t270 h271 H=>cl rfl cal222 rfl (name_Event.c h271)<|un0 rfl rfl (run_not _)<|mv0 rfl rfl ?_
 cases c272:!t270
 rotate_left
 ·
  have H:=H.ct c272
  refine sk rfl rfl<|sk rfl rfl<|sk rfl rfl<|sk rfl rfl<|pt0 rfl rfl rfl<|mv0 rfl rfl<|sk rfl rfl<|sk rfl rfl<|sk rfl rfl<|sku rfl rfl<|sku rfl rfl<|sku rfl rfl<|sku rfl rfl<|sku rfl rfl<|sku rfl rfl<|sku rfl rfl<|sku rfl rfl<|sk rfl rfl<|pt0 rfl rfl rfl<|.fin<|WP.cond rfl (fun _=>?_) nofun
  refine WP.seq<|rg 1 0<|as0 rfl rfl<|.fin<|WP.exit ?_
  have H:=H.out
  exact jn (false,x267,decide (x267 < (a0.fParents.length:Int))) H
 have H:=H.cf c272
 refine mvg rfl rfl rfl<|fb rfl (gg rfl) rfl fa107_0<|ld 0 rfl (gg rfl) rfl sc9 rfl rfl<|bng rfl rfl rfl rfl run_seq<|pf0 rfl rfl rfl<|mv0 rfl rfl ?_
 cases c274:decide ((strK.at a0.fParents x267) = a0.fID)
 rotate_left
 ·
  have H:=H.ct c274
  refine sk rfl rfl<|sk rfl rfl<|sk rfl rfl<|sku rfl rfl<|sku rfl rfl<|sku rfl rfl<|sku rfl rfl<|sku rfl rfl<|sku rfl rfl<|sku rfl rfl<|sku rfl rfl<|sk rfl rfl<|pt0 rfl rfl rfl<|.fin<|WP.cond rfl (fun _=>?_) nofun
  refine WP.seq<|rg 1 0<|as0 rfl rfl<|.fin<|WP.exit ?_
  have H:=H.out
  exact jn (false,x267,decide (x267 < (a0.fParents.length:Int))) H
 have H:=H.cf c274
 refine mvg rfl rfl rfl<|bng rfl rfl rfl rfl run_gt<|mvg rfl rfl rfl ?_
 cases c276:decide (0 < x267)
 ·
  have H:=H.cf c276
  refine sk rfl rfl<|sk rfl rfl<|sk rfl rfl<|sk rfl rfl<|sk rfl rfl<|sk rfl rfl<|sk rfl rfl<|sk rfl rfl<|pfg rfl rfl rfl rfl<|pf0 rfl rfl rfl<|.fin<|WP.cond rfl nofun (fun _=>?_)
  exact WP.skip<|rg 2 0<|bn0 rfl rfl rfl run_add<|mv0 rfl rfl<|.fin<|bk j280 (w64 (x267 + 1)) H
 have H:=H.ct c276
 refine mvg rfl rfl rfl<|fb rfl (gg rfl) rfl fa107_2<|ld 0 rfl (gg rfl) rfl sc23 rfl rfl<|mvg rfl rfl rfl<|bng rfl rfl rfl rfl run_sub<|gr H fun g277 H=>Dv.ixr rfl (gg rfl) rfl rfl Tryz.underlying23 Tryz.underlying9 c9 g277.1 g277.2<|ldR rfl (gg rfl) rfl sc9 rfl<|bng rfl rfl rfl rfl run_sle<|ptg rfl rfl rfl rfl<|pf0 rfl rfl rfl<|.fin<|cd H rfl (fun _ H=>?_) (fun _ H=>?_)
 rotate_left
 ·
  exact WP.skip<|rg 2 0<|bn0 rfl rfl rfl run_add<|mv0 rfl rfl<|.fin<|bk j280 (w64 (x267 + 1)) H
 refine WP.seq<|rg 1 0<|as0 rfl rfl<|.fin<|WP.exit ?_
 have H:=H.out
 exact jn (false,x267,decide (x267 < (a0.fParents.length:Int))) H
theorem dag_Dag_Has.c {a0:DDag} {a1:ByteArray} {v0_0:OV} {b0_:Nat} {r:Bool} (h:dag_Dag_Has.f a0 a1 = some r):Tr Tryz.prog 152 [eq (.pointer (some ⟨b0_,0,none⟩)),vS a1] [blk b0_ 274 [vS a0.froom,eq v0_0.1],mpo Value.string DNode.O v0_0.1 a0.fnodes] (γ:=Unit) (fun _=>True) (fun g=>vB r) (fun g=>[blk b0_ 274 [vS a0.froom,eq v0_0.1],mpo Value.string DNode.O v0_0.1 a0.fnodes]):=by
 unfold dag_Dag_Has.f at h
 refine tb Tryz.func152 Tryz.ntmps152 h fun R0 F H=>?_
 refine WP.seq<|rg 1 0<|as0 rfl rfl<|.fin<|WP.seq<|rg 8 0<|mv0 rfl rfl<|Dv.nilp rfl trivial rfl<|fb rfl trivial rfl fa274_1<|ld 0 rfl trivial rfl sc272 rfl rfl<|mv0 rfl rfl<|vg (mpo_opn 1 rfl) fun z299 h300=>?_
 refine Dv.mlv nilP rfl trivial rfl (mem_at 0 rfl) rfl Tryz.underlying272 (keyOk_str Tryz.underlying9) z276 (fun _=>rfl)<|Dv.pm1 (pm_nil h300 rfl) rfl trivial rfl rfl Tryz.underlying276<|as0 rfl rfl<|.fin<|wg (mpo_shut h300 rfl (pm 3 [0,1,2])) fun _ _=>?_
 cases H.out; exact rt i2 rfl () 2 [1,0] 0 (.cons (res_tmp rfl) .nil)
theorem slices_IndexFunc_string_x.c {k:Nat} {a0:List ByteArray} {a1:(ByteArray→Option Bool)} {X1_:As} {r:Int} (h:slices_IndexFunc_string_x.f k a0 a1 = some r):Tr Tryz.prog 187 [sl strK a0,fx_string_bool X1_ a1] [X1_] (γ:=Unit) (fun _=>True) (fun g=>vI r) (fun g=>[X1_]):=by
 unfold slices_IndexFunc_string_x.f at h
 refine tb Tryz.func187 Tryz.ntmps187 h fun R0 F H=>?_
 refine WP.seq<|rg 1 0<|as0 rfl rfl<|.fin<|WP.seqr H id (fun p310:Int×Bool=>[]) (fun p310:Int×Bool=>[X1_]++F) (fun p310 H=>?_) (fun H=>?_)
 ·
  refine WP.seq<|rg 1 0<|as0 rfl rfl<|.fin ?_
  cases H.out; exact rt i2 rfl () 1 [0] 0 (.cons (res_tmp rfl) .nil)
 refine WP.seq<|rg 3 0<|mv0 rfl rfl<|Dv.lenl rfl trivial rfl Tryz.underlying23<|mv0 rfl rfl<|.fin<|WP.block<|wg (sg 1 [0] 0) fun _ _=>?_
 refine lp (fun j_ (p318:Int)=>slices_IndexFunc_string_x.l0 k a0 a1 j_ p318) 0 H (fun p318=>[(0,sl strK a0),(1,fx_string_bool X1_ a1),(7,vI (a0.length:Int)),(8,vI p318)]) (fun p318=>[X1_]++F) ?_
 rintro j_ x311 H
 rcases j_ with _ | j317
 ·
  exact (Gets.no H).elim
 try dsimp only at H
 rw [slices_IndexFunc_string_x.l0] at H
 refine WP.seq<|rg 1 0<|bn0 rfl rfl rfl run_lt<|.fin<|WP.seq<|cd H rfl (fun _ H=>?_) (fun _ H=>?_)
 rotate_left
 ·
  refine WP.exit ?_
  have H:=H.out
  exact jn (x311,decide (x311 < (a0.length:Int))) H
 refine WP.skip<|WP.seq<|WP.block<|WP.seq<|rg 2 0<|mv0 rfl rfl<|as0 rfl rfl<|.fin<|WP.seq<|rg 6 0<|mv0 rfl rfl<|mv0 rfl rfl<|mv0 rfl rfl<|gr H fun g313 H=>Dv.ixr rfl trivial rfl rfl Tryz.underlying23 Tryz.underlying9 c9 g313.1 g313.2<|ldR rfl trivial rfl sc9 rfl<|el H fun t314 h315 H=>Dv.callfx (ret:=vB t314) (X:=X1_) (F:=F) rfl trivial rfl rfl ⟨_,_,h315,rfl,rfl⟩ (perm_to (L:=[X1_]) (F:=F) [0] rfl rfl rfl)<|.fin<|cd H rfl (fun _ H=>?_) (fun _ H=>?_)
 rotate_left
 ·
  exact WP.skip<|rg 2 0<|bn0 rfl rfl rfl run_add<|mv0 rfl rfl<|.fin<|bk j317 (w64 (x311 + 1)) H
 refine WP.seq<|rg 2 0<|mv0 rfl rfl<|as0 rfl rfl<|.fin ?_
 have H:=H.outr
 cases H.out; exact rt i2 rfl () 1 [0] 0 (.cons (res_tmp rfl) .nil)
theorem slices_IndexFunc_string_xw.c {k:Nat} {a0:List ByteArray} {a1:(ByteArray→Option Bool)} {X1_:As} {p0_:OV} {r:Int} (h:slices_IndexFunc_string_xw.f k a0 a1 = some r):Tr Tryz.prog 187 [eq p0_.1,fx_string_bool X1_ a1] [own strK p0_.1 a0,X1_] (γ:=Unit) (fun _=>True) (fun g=>vI r) (fun g=>[own strK p0_.1 a0,X1_]):=by
 unfold slices_IndexFunc_string_xw.f at h
 refine tb Tryz.func187 Tryz.ntmps187 h fun R0 F H=>?_
 refine WP.seq<|rg 1 0<|as0 rfl rfl<|.fin<|WP.seqr H id (fun p319:Int×Bool=>[]) (fun p319:Int×Bool=>[own strK p0_.1 a0,X1_]++F) (fun p319 H=>?_) (fun H=>?_)
 ·
  refine WP.seq<|rg 1 0<|as0 rfl rfl<|.fin ?_
  cases H.out; exact rt i2 rfl () 2 [0,1] 0 (.cons (res_tmp rfl) .nil)
 refine WP.seq<|rg 3 0<|mv0 rfl rfl<|Dv.lenw rfl trivial rfl (mem_at 0 rfl) Tryz.underlying23<|mv0 rfl rfl<|.fin<|WP.block<|wg (sg 2 [0,1] 0) fun _ _=>?_
 refine lp (fun j_ (p328:Int)=>slices_IndexFunc_string_xw.l0 k a0 a1 j_ p328) 0 H (fun p328=>[(0,eq p0_.1),(1,fx_string_bool X1_ a1),(7,vI (a0.length:Int)),(8,vI p328)]) (fun p328=>[own strK p0_.1 a0,X1_]++F) ?_
 rintro j_ x320 H
 rcases j_ with _ | j327
 ·
  exact (Gets.no H).elim
 try dsimp only at H
 rw [slices_IndexFunc_string_xw.l0] at H
 refine WP.seq<|rg 1 0<|bn0 rfl rfl rfl run_lt<|.fin<|WP.seq<|cd H rfl (fun _ H=>?_) (fun _ H=>?_)
 rotate_left
 ·
  refine WP.exit ?_
  have H:=H.out
  exact jn (x320,decide (x320 < (a0.length:Int))) H
 refine WP.skip<|WP.seq<|WP.block<|WP.seq<|rg 2 0<|mv0 rfl rfl<|as0 rfl rfl<|.fin<|WP.seq<|rg 6 0<|mv0 rfl rfl<|mv0 rfl rfl<|mv0 rfl rfl<|gr H fun g322 H=>?_
 have h323:x320.toNat < a0.length:=idx_lt g322
 refine Dv.ixw rfl trivial rfl (mem_at 0 rfl) rfl Tryz.underlying23 Tryz.underlying9 c9 g322.1 g322.2<|Dv.ldw (j:=x320.toNat) (f:=0) (p:=vS (a0.getD x320.toNat default)) rfl trivial rfl (mem_at 0 rfl) h323 Tryz.underlying9 rfl rfl<|el H fun t324 h325 H=>Dv.callfx (ret:=vB t324) (X:=X1_) (F:=[own strK p0_.1 a0]++F) rfl trivial rfl rfl ⟨_,_,h325,rfl,rfl⟩ (perm_to (L:=[own strK p0_.1 a0,X1_]) (F:=F) [1,0] rfl rfl rfl)<|.fin<|cd H rfl (fun _ H=>?_) (fun _ H=>?_)
 rotate_left
 ·
  exact WP.skip<|rg 2 0<|bn0 rfl rfl rfl run_add<|mv0 rfl rfl<|.fin<|bk j327 (w64 (x320 + 1)) H
 refine WP.seq<|rg 2 0<|mv0 rfl rfl<|as0 rfl rfl<|.fin ?_
 have H:=H.outr
 cases H.out; exact rt i2 rfl () 2 [0,1] 0 (.cons (res_tmp rfl) .nil)
theorem slices_ContainsFunc_string_x.c {k:Nat} {a0:List ByteArray} {a1:(ByteArray→Option Bool)} {X1_:As} {r:Bool} (h:slices_ContainsFunc_string_x.f k a0 a1 = some r):Tr Tryz.prog 153 [sl strK a0,fx_string_bool X1_ a1] [X1_] (γ:=Unit) (fun _=>True) (fun g=>vB r) (fun g=>[X1_]):=by
 unfold slices_ContainsFunc_string_x.f at h
 refine tb Tryz.func153 Tryz.ntmps153 h fun R0 F H=>?_
 refine WP.seq<|rg 1 0<|as0 rfl rfl<|.fin<|WP.seq<|rg 5 0<|mv0 rfl rfl<|mv0 rfl rfl<|el H fun t331 h332 H=>cll 1 [0] cal187 (slices_IndexFunc_string_x.c h332 (X1_:=X1_)) ?_
 refine bn0 rfl rfl rfl run_ge<|as0 rfl rfl<|.fin ?_
 cases H.out; exact rt i2 rfl () 1 [0] 0 (.cons (res_tmp rfl) .nil)
theorem dag_Dag_Add_1.c {a0:ByteArray} {cb0_ cd0_:Nat} {cq0_ cv0_0:OV} {ch0_:cq0_.1 = .pointer (some ⟨cd0_,0,none⟩)} {c0:DDag} {r:Bool} (h:dag_Dag_Add_1.f a0 c0 = some r):Tr Tryz.prog 154 [vS a0,eq (.pointer (some ⟨cb0_,0,none⟩))] [blk cb0_ 212 [eq cq0_.1],blk cd0_ 274 [vS c0.froom,eq cv0_0.1],mpo Value.string DNode.O cv0_0.1 c0.fnodes] (γ:=Unit) (fun _=>True) (fun g=>vB r) (fun g=>[blk cb0_ 212 [eq cq0_.1],blk cd0_ 274 [vS c0.froom,eq cv0_0.1],mpo Value.string DNode.O cv0_0.1 c0.fnodes]):=by
 unfold dag_Dag_Add_1.f at h
 refine tb Tryz.func154 Tryz.ntmps154 h fun R0 F H=>?_
 refine WP.seq<|rg 1 0<|as0 rfl rfl<|.fin<|WP.seq<|rg 5 0<|ld 0 rfl trivial rfl sc212 rfl rfl<|mv0 rfl rfl<|el H fun t335 h336 H=>cll 3 [1,2,0] cal152 (Tr.weak (dag_Dag_Has.c h336 (b0_:=cd0_) (v0_0:=cv0_0)) (.cons (wk_ptr ch0_) (.cons wk_id .nil))) ?_
 refine un0 rfl rfl (run_not _)<|as0 rfl rfl<|.fin ?_
 cases H.out; exact rt i2 rfl () 3 [0,1,2] 0 (.cons (res_tmp rfl) .nil)
theorem slices_Clone_string.c {a0:List ByteArray} {r:List ByteArray} (h:slices_Clone_string.f a0 = some r):Tr Tryz.prog 223 [sl strK a0] [] (γ:=OV) (fun _=>True) (fun g=>eq g.1) (fun g=>[own strK g.1 r]):=by
 unfold slices_Clone_string.f at h
 obtain ⟨h0,h5⟩:=(Gets.of h).grd
 obtain rfl:=Gets.out h5
 clear h h5
 refine (Tr.body Tryz.func223 (c:=_) rfl Tryz.ntmps223 (Nat.le_of_ble_eq_true rfl) fun R0 F=>?_)
 refine WP.seq<|WP.reg [(0,false)] (by kernel_rfl)<|as0 rfl rfl<|.fin<|WP.seq<|WP.seq<|WP.reg [(0,false),(1,true)] (by kernel_rfl)<|mv0 rfl rfl<|Dv.snil rfl trivial rfl rfl Tryz.underlying23 nofun (fun b hb=>?_)
 refine .fin<|WP.cond rfl (fun c0=>?_) (fun c0=>?_)
 ·
  obtain rfl:=hb c0
  refine WP.seq<|WP.reg [(0,false)] (by kernel_rfl)<|as0 rfl rfl<|.fin<|wg (st_nil strK none) fun _ _=>?_
  exact rt i2 rfl nilV 1 [0] 0 (.cons (res_tmp rfl) .nil)
 refine WP.skip<|WP.seq<|WP.reg [(0,true),(1,false),(2,true),(3,false)] (by kernel_rfl)<|Dv.lit0 strK rfl trivial Tryz.underlying23 Tryz.underlying9 c9 z9 nofun (fun v1=>?_)
 refine mv0 rfl rfl<|Dv.appx (Kd:=strK) (xs:=[]) (v:=v1.1) (jj:=0) (ys:=a0) (fun v2:OV=>[own strK v2.1 a0]++F) rfl trivial rfl rfl rfl src_sl Tryz.underlying23 (.inr ⟨_,Tryz.underlying23⟩) inf9 rfl (by decide) (by simpa using h0) rfl nofun (fun v2=>?_)
 exact as0 rfl rfl<|.fin<|rt i2 rfl v2 1 [0] 0 (.cons (res_tmp rfl) .nil)
theorem dag_own.c {a0:Event} {r:Event} (h:dag_own.f a0 = some r):Pt Tryz.prog 155 [agg (Event.enc a0)] (agg (Event.enc r)):=by
 unfold dag_own.f at h
 refine pb Tryz.func155 Tryz.ntmps155 h fun R0 F H=>?_
 refine WP.seq<|rg 2 3<|Dv.box rfl trivial rfl cA nofun fun b337=>al rfl trivial zc107 nofun fun b338=>.fin<|WP.seq<|rg 5 20<|fb rfl trivial rfl fa107_2<|ld 1 rfl trivial rfl sc23 rfl rfl<|el H fun t339 h340 H=>cx 2 [0,1] cal223 (slices_Clone_string.c h340) nofun fun g341 _=>?_
 refine fb rfl trivial rfl fa107_2<|sx 2 rfl trivial rfl rfl (cells_one one_ov) sz23 rfl rfl rfl nofun ?_
 refine .fin<|WP.seq<|rg 2 2<|lds 2 rfl trivial rfl sg107 rfl rfl<|sx 1 rfl trivial rfl rfl cA sz107 rfl rfl rfl nofun ?_
 refine .fin<|WP.gh (gh_frz (E':=[(2,eq (.pointer (some ⟨b338,0,none⟩)))]) (l':=[blk b338 107 [vS a0.fID,vS a0.fRoom,sl strK t339,vS a0.fThread,vS a0.fUser,vI a0.fDoes],blk b337 107 [vS a0.fID,vS a0.fRoom,sl strK t339,vS a0.fThread,vS a0.fUser,vI a0.fDoes]]++F) 0 rfl (cve_cons rfl cv_id cve_nil) (all2_app (.cons (cva_blk (.cons cv_id (.cons cv_id (.cons cv_eq (.cons cv_id (.cons cv_id (.cons cv_id .nil))))))) (.cons (cva_blk (.cons cv_id (.cons cv_id (.cons cv_eq (.cons cv_id (.cons cv_id (.cons cv_id .nil))))))) .nil)) fun _=>cva_id)) (fun _ _=>?_)
 cases H.out; exact r2 i2 rfl (.cons (res_cells rfl Tryz.underlying107 rfl c107 (mem_at 0 rfl) rfl) .nil)
theorem dag_Dag_Add.c {k:Nat} {a0:DDag} {a1:Event} {p0_:OV} {r:Int×DDag} (h:dag_Dag_Add.f k a0 a1 = some r):Tr Tryz.prog 93 [eq p0_.1,agg (Event.enc a1)] [DDag.O p0_ a0] (γ:=Unit) (fun _=>True) (fun g=>vI r.1) (fun g=>[DDag.O p0_ r.2]):=by
 unfold dag_Dag_Add.f at h
 refine tb Tryz.func93 Tryz.ntmps93 h fun R0 F H=>?_
 refine WP.seq<|rg 3 3<|Dv.box rfl trivial rfl (cells_one one_ov) nofun fun b342=>Dv.box rfl trivial rfl cA nofun fun b343=>as0 rfl rfl<|.fin<|WP.seq<|WP.block<|WP.seq<|wg (DDag.opn 2 rfl) fun g344 h345=>?_
 refine dg Tryz.checked.mixed 13 0<|lds 2 rfl trivial rfl sg107 rfl rfl<|el H fun t346 h347 H=>cl rfl cal151 rfl (dag_May.c h347)<|un0 rfl rfl (run_not _)<|mv0 rfl rfl ?_
 cases c348:!t346
 rotate_left
 ·
  have H:=H.ct c348
  refine sk rfl rfl<|sk rfl rfl<|sk rfl rfl<|sk rfl rfl<|sk rfl rfl<|sk rfl rfl<|sk rfl rfl<|pt0 rfl rfl rfl<|as0 rfl rfl<|.fin<|WP.cond rfl (fun _=>?_) nofun
  refine WP.seq<|rg 1 0<|as0 rfl rfl<|.fin<|wg (DDag.shut (p:=p0_) (m:=a0) (g344.1,g344.2) h345 (pm 4 [0,1,2,3])) fun _ _=>?_
  cases H.out; exact rt i2 rfl () 3 [1,2,0] 2 (.cons (res_tmp rfl) .nil)
 have H:=H.cf c348
 refine fb rfl (gg rfl) rfl fa107_1<|ld 2 rfl (gg rfl) rfl sc9 rfl rfl<|ld 3 rfl (gg rfl) rfl sc212 rfl rfl<|Dv.nilpp h345 rfl (gg rfl) rfl<|fp h345 rfl (gg rfl) rfl fa274_0<|ld 0 rfl (gg rfl) rfl sc9 rfl rfl<|bng rfl rfl rfl rfl run_sne<|pf0 rfl rfl rfl<|as0 rfl rfl<|.fin<|cd H rfl (fun _ H=>?_) (fun _ H=>?_)
 ·
  refine WP.seq<|rg 1 0<|as0 rfl rfl<|.fin<|wg (DDag.shut (p:=p0_) (m:=a0) (g344.1,g344.2) h345 (pm 4 [0,1,2,3])) fun _ _=>?_
  cases H.out; exact rt i2 rfl () 3 [1,2,0] 2 (.cons (res_tmp rfl) .nil)
 refine WP.seq<|rg 5 0<|ld 3 rfl trivial rfl sc212 rfl rfl<|fb rfl trivial rfl fa107_0<|ld 2 rfl trivial rfl sc9 rfl rfl<|el H fun t351 h352 H=>cll 4 [0,1,2,3] cal152 (Tr.weak (dag_Dag_Has.c h352 (b0_:=g344.1) (v0_0:=g344.2)) (.cons (wk_ptr h345) (.cons wk_id .nil))) ?_
 refine as0 rfl rfl<|.fin<|cd H rfl (fun _ H=>?_) (fun _ H=>?_)
 ·
  refine WP.seq<|rg 1 0<|as0 rfl rfl<|.fin<|wg (DDag.shut (p:=p0_) (m:=a0) (g344.1,g344.2) h345 (pm 4 [0,1,2,3])) fun _ _=>?_
  cases H.out; exact rt i2 rfl () 3 [1,2,0] 2 (.cons (res_tmp rfl) .nil)
 refine WP.seq<|rg 5 0<|fb rfl trivial rfl fa107_2<|ld 2 rfl trivial rfl sc23 rfl rfl<|Dv.mkx (Q:=fqQ_string_bool (fun a0_=>dag_Dag_Add_1.f a0_ a0)) (L:=[blk b342 212 [eq p0_.1],blk g344.1 274 [vS a0.froom,eq g344.2.1],mpo Value.string DNode.O g344.2.1 a0.fnodes]) cal154 (by rintro _ _ ⟨a0_,r_,h_,rfl,rfl⟩; exact dag_Dag_Add_1.c h_ (cb0_:=b342) (cq0_:=p0_) (cd0_:=g344.1) (ch0_:=h345) (cv0_0:=g344.2)) rfl trivial rfl rfl<|el H fun t354 h355 H=>cll 4 [3,0,1,2] cal153 (Tr.unpkr (A:=[]) (L:=[blk b342 212 [eq p0_.1],blk g344.1 274 [vS a0.froom,eq g344.2.1],mpo Value.string DNode.O g344.2.1 a0.fnodes]) (slices_ContainsFunc_string_x.c h355 (X1_:=(pk [blk b342 212 [eq p0_.1],blk g344.1 274 [vS a0.froom,eq g344.2.1],mpo Value.string DNode.O g344.2.1 a0.fnodes])))) ?_
 refine as0 rfl rfl<|.fin<|cd H rfl (fun _ H=>?_) (fun _ H=>?_)
 ·
  refine WP.seq<|rg 1 0<|as0 rfl rfl<|.fin<|wg (DDag.shut (p:=p0_) (m:=a0) (g344.1,g344.2) h345 (pm 4 [0,1,2,3])) fun _ _=>?_
  cases H.out; exact rt i2 rfl () 3 [1,2,0] 2 (.cons (res_tmp rfl) .nil)
 refine WP.skip<|WP.seqr H id (fun p357:Unit=>[(2,eq (.pointer (some ⟨b342,0,none⟩))),(3,eq (.pointer (some ⟨b343,0,none⟩)))]) (fun p357:Unit=>[blk b343 107 (Event.enc a1),blk b342 212 [eq p0_.1],DDag.O p0_ a0]++F) (fun p357 H=>?_) (fun H=>?_)
 rotate_left
 ·
  refine WP.seq<|rg 3 0<|fb rfl trivial rfl fa107_3<|ld 2 rfl trivial rfl sc9 rfl rfl<|bn0 rfl rfl rfl run_sne<|.fin<|cd H rfl (fun _ H=>?_) (fun _ H=>?_)
  rotate_left
  ·
   refine WP.skip ?_
   have H:=H.out
   refine ng (DDag.shut (p:=p0_) (m:=a0) (g344.1,g344.2) h345 (pm 4 [0,1,2,3])) fun _ _=>?_
   refine ng (sg 3 [1,2,0] 0) fun _ _=>?_
   exact jn () H
  refine WP.seq<|wg (mpo_opn 1 rfl) fun z382 h383=>?_
  refine dg Tryz.checked.mixed 8 0<|ld 4 rfl trivial rfl sc212 rfl rfl<|Dv.nilpp h345 rfl trivial rfl<|fp h345 rfl trivial rfl fa274_1<|ld 2 rfl trivial rfl sc272 rfl rfl<|fb rfl trivial rfl fa107_3<|ld 3 rfl trivial rfl sc9 rfl rfl<|Dv.mlv nilP rfl trivial rfl (mem_at 0 rfl) rfl Tryz.underlying272 (keyOk_str Tryz.underlying9) z276 (fun _=>rfl)<|as0 rfl rfl<|.fin<|WP.seq<|WP.seq<|rg 2 0<|mv0 rfl rfl<|Dv.pm0 (pm_nil h383 rfl) rfl trivial rfl rfl Tryz.underlying276<|.fin<|cd H rfl (fun _ H=>?_) (fun _ H=>?_)
  ·
   refine WP.seq<|rg 1 0<|as0 rfl rfl<|.fin<|wg (mpo_shut h383 rfl (pm 5 [0,1,2,3,4])) fun _ _=>?_
   refine wg (DDag.shut (p:=p0_) (m:=a0) (g344.1,g344.2) h345 (pm 4 [1,0,2,3])) fun _ _=>?_
   have H:=H.outr
   cases H.out; exact rt i2 rfl () 3 [1,2,0] 2 (.cons (res_tmp rfl) .nil)
  refine WP.skip<|WP.seq<|rg 14 0<|mv0 rfl rfl<|gr H fun g385 H=>vg (mpo_foc h383 rfl g385 (pm 5 [1,0,2,3,4])) fun _ _=>?_
  refine Dv.nilA DNode.nn rfl trivial rfl (mem_at 0 rfl)<|vg (DNode.opn 0 rfl) fun g386 h387=>?_
  refine fp h387 rfl trivial rfl fa278_0<|fb rfl trivial rfl fa107_3<|ld 0 rfl trivial rfl sc9 rfl rfl<|bn0 rfl rfl rfl run_sne<|mv0 rfl rfl ?_
  cases c388:!decide (((((mget a0.fnodes a1.fThread).getD default).fe).fThread) = (⟨#[]⟩:ByteArray))
  rotate_left
  ·
   have H:=H.ct c388
   refine sk rfl rfl<|sk rfl rfl<|sk rfl rfl<|sk rfl rfl<|sk rfl rfl<|sk rfl rfl<|pt0 rfl rfl rfl<|.fin<|WP.cond rfl (fun _=>?_) nofun
   refine WP.seq<|rg 1 0<|as0 rfl rfl<|.fin<|wg (DNode.shut (p:=((mget (zipK a0.fnodes z382) a1.fThread).getD nilP)) (m:=(mget a0.fnodes a1.fThread).getD default) g386 h387 (pm 6 [0,1,2,3,4,5])) fun _ _=>?_
   refine wg (mpo_unf0 h383 rfl g385 (pm 6 [0,1,2,3,4,5])) fun _ _=>?_
   refine wg (mpo_shut h383 rfl (pm 5 [1,0,2,3,4])) fun _ _=>?_
   refine wg (DDag.shut (p:=p0_) (m:=a0) (g344.1,g344.2) h345 (pm 4 [1,0,2,3])) fun _ _=>?_
   have H:=H.outr
   cases H.out; exact rt i2 rfl () 3 [1,2,0] 2 (.cons (res_tmp rfl) .nil)
  have H:=H.cf c388
  refine mvg rfl rfl rfl<|Dv.nilpp h387 rfl (gg rfl) rfl<|fp h387 rfl (gg rfl) rfl fa278_0<|fb rfl (gg rfl) rfl fa107_5<|ld 0 rfl (gg rfl) rfl sc3 rfl rfl<|bng rfl rfl rfl rfl run_ne<|pf0 rfl rfl rfl<|.fin<|cd H rfl (fun _ H=>?_) (fun _ H=>?_)
  rotate_left
  ·
   refine WP.skip ?_
   have H:=H.out
   refine ng (DNode.shut (p:=((mget (zipK a0.fnodes z382) a1.fThread).getD nilP)) (m:=(mget a0.fnodes a1.fThread).getD default) g386 h387 (pm 6 [0,1,2,3,4,5])) fun _ _=>?_
   refine ng (mpo_unf0 h383 rfl g385 (pm 6 [0,1,2,3,4,5])) fun _ _=>?_
   refine ng (mpo_shut h383 rfl (pm 5 [1,0,2,3,4])) fun _ _=>?_
   refine ng (DDag.shut (p:=p0_) (m:=a0) (g344.1,g344.2) h345 (pm 4 [1,0,2,3])) fun _ _=>?_
   refine ng (sg 3 [1,2,0] 0) fun _ _=>?_
   exact jn () H
  refine WP.seq<|rg 1 0<|as0 rfl rfl<|.fin<|wg (DNode.shut (p:=((mget (zipK a0.fnodes z382) a1.fThread).getD nilP)) (m:=(mget a0.fnodes a1.fThread).getD default) g386 h387 (pm 6 [0,1,2,3,4,5])) fun _ _=>?_
  refine wg (mpo_unf0 h383 rfl g385 (pm 6 [0,1,2,3,4,5])) fun _ _=>?_
  refine wg (mpo_shut h383 rfl (pm 5 [1,0,2,3,4])) fun _ _=>?_
  refine wg (DDag.shut (p:=p0_) (m:=a0) (g344.1,g344.2) h345 (pm 4 [1,0,2,3])) fun _ _=>?_
  have H:=H.outr
  cases H.out; exact rt i2 rfl () 3 [1,2,0] 2 (.cons (res_tmp rfl) .nil)
 refine WP.seq<|rg 5 8<|lds 0 rfl trivial rfl sg107 rfl rfl<|el H fun t358 h359 H=>cl rfl cal155 rfl (dag_own.c h359)<|Dv.bld (qs:=[vS t358.fID,vS t358.fRoom,sl strK t358.fParents,vS t358.fThread,vS t358.fUser,vI t358.fDoes,vI 0,vB false]) (css:=[Event.enc t358]) rfl trivial Tryz.underlying278 pl278 z278 rfl ⟨(cells_agg (Event.K.one _)),trivial⟩ rfl rfl<|Dv.box rfl trivial rfl cA nofun fun b360=>as0 rfl rfl<|.fin<|WP.seqn H id (fun p361:Int×Bool×Int×DDag=>[(2,eq (.pointer (some ⟨b342,0,none⟩))),(3,eq (.pointer (some ⟨b343,0,none⟩))),(6,eq (.pointer (some ⟨b360,0,none⟩)))]) (fun p361:Int×Bool×Int×DDag=>[blk b360 278 [vS t358.fID,vS t358.fRoom,sl strK t358.fParents,vS t358.fThread,vS t358.fUser,vI t358.fDoes,vI p361.2.2.1,vB false],blk b343 107 (Event.enc a1),blk b342 212 [eq p0_.1],DDag.O p0_ p361.2.2.2]++F) (fun p361 H=>?_) (fun H=>?_)
 ·
  refine WP.seq<|wg (DDag.opn 3 rfl) fun g362 h363=>?_
  refine wg (DNode.shut (p:=(⟨.pointer (some ⟨b360,0,none⟩),rfl⟩:OV)) (m:=(⟨t358,p361.2.2.1,false⟩:DNode)) b360 rfl (pm 5 [2,0,1,3,4])) fun _ _=>?_
  refine wg (mpo_opn 2 rfl) fun z364 h365=>?_
  refine dg Tryz.checked.mixed 8 128<|ld 5 rfl trivial rfl sc212 rfl rfl<|Dv.nilpp h363 rfl trivial rfl<|fp h363 rfl trivial rfl fa274_1<|ld 3 rfl trivial rfl sc272 rfl rfl<|fb rfl trivial rfl fa107_0<|ld 4 rfl trivial rfl sc9 rfl rfl<|mv0 rfl rfl<|Dv.mup (vp:=fun p:OV=>eq p.1) (jj:=0) (⟨.pointer (some ⟨b360,0,none⟩),rfl⟩:OV) rfl trivial rfl rfl rfl rfl Tryz.underlying272 (keyOk_str Tryz.underlying9) (fun _=>pend_bits (by kernel_rfl))<|.fin<|WP.seq<|rg 1 0<|as0 rfl rfl<|.fin<|wg (mpo_add DNode.nn h365 rfl (pm 6 [0,1,2,3,4,5])) fun _ _=>?_
  refine wg (DDag.shut (p:=p0_) (m:=(⟨p361.2.2.2.froom,mput p361.2.2.2.fnodes a1.fID (⟨t358,p361.2.2.1,false⟩:DNode)⟩:DDag)) (g362.1,g362.2) h363 (pm 4 [1,0,2,3])) fun _ _=>?_
  cases H.out; exact rt i2 rfl () 3 [1,2,0] 2 (.cons (res_tmp rfl) .nil)
 refine WP.seq<|rg 4 0<|fb rfl trivial rfl fa107_2<|ld 1 rfl trivial rfl sc23 rfl rfl<|Dv.lenl rfl trivial rfl Tryz.underlying23<|mv0 rfl rfl<|.fin<|WP.block<|wg (sg 4 [0,1,2,3] 0) fun _ _=>?_
 refine lp (fun j_ (p380:Int×Int×DDag)=>dag_Dag_Add.l0 k a1 j_ p380.1 p380.2.1 p380.2.2) (0,0,a0) H (fun p380=>[(2,eq (.pointer (some ⟨b342,0,none⟩))),(3,eq (.pointer (some ⟨b343,0,none⟩))),(6,eq (.pointer (some ⟨b360,0,none⟩))),(63,sl strK a1.fParents),(64,vI (a1.fParents.length:Int)),(65,vI p380.1)]) (fun p380=>[blk b360 278 [vS t358.fID,vS t358.fRoom,sl strK t358.fParents,vS t358.fThread,vS t358.fUser,vI t358.fDoes,vI p380.2.1,vB false],blk b343 107 (Event.enc a1),blk b342 212 [eq p0_.1],DDag.O p0_ p380.2.2]++F) ?_
 rintro j_ ⟨x366,x367,x368⟩ H
 rcases j_ with _ | j379
 ·
  exact (Gets.no H).elim
 try dsimp only at H
 rw [dag_Dag_Add.l0] at H
 refine WP.seq<|rg 1 0<|bn0 rfl rfl rfl run_lt<|.fin<|WP.seq<|cd H rfl (fun _ H=>?_) (fun _ H=>?_)
 rotate_left
 ·
  refine WP.exit ?_
  have H:=H.out
  exact jn (x366,decide (x366 < (a1.fParents.length:Int)),x367,x368) H
 refine WP.skip<|WP.seq<|WP.block<|WP.seq<|rg 3 0<|gr H fun g370 H=>Dv.ixr rfl trivial rfl rfl Tryz.underlying23 Tryz.underlying9 c9 g370.1 g370.2<|ldR rfl trivial rfl sc9 rfl<|as0 rfl rfl<|.fin<|WP.seq<|wg (DDag.opn 3 rfl) fun g371 h372=>?_
 refine wg (mpo_opn 1 rfl) fun z373 h374=>?_
 refine gr H fun g375 H=>wg (mpo_foc h374 rfl g375 (pm 6 [1,0,2,3,4,5])) fun _ _=>?_
 refine wg (DNode.opn 0 rfl) fun g376 h377=>?_
 refine dg Tryz.checked.mixed 19 262144<|mv0 rfl rfl<|mv0 rfl rfl<|Dv.nilp rfl trivial rfl<|fb rfl trivial rfl fa278_1<|ld 4 rfl trivial rfl sc3 rfl rfl<|ld 6 rfl trivial rfl sc212 rfl rfl<|Dv.nilpp h372 rfl trivial rfl<|fp h372 rfl trivial rfl fa274_1<|ld 3 rfl trivial rfl sc272 rfl rfl<|mv0 rfl rfl<|Dv.mlv nilP rfl trivial rfl (mem_at 2 rfl) rfl Tryz.underlying272 (keyOk_str Tryz.underlying9) z276 (fun _=>rfl)<|Dv.nilpp h377 rfl trivial rfl<|fp h377 rfl trivial rfl fa278_1<|ld 0 rfl trivial rfl sc3 rfl rfl<|bn0 rfl rfl rfl run_add<|Dv.maxi rfl trivial rfl rfl<|Dv.nilp rfl trivial rfl<|fb rfl trivial rfl fa278_1<|sx 4 rfl trivial rfl rfl cE sz3 rfl rfl rfl pB ?_
 refine .fin<|rg 9 256<|ld 6 rfl trivial rfl sc212 rfl rfl<|Dv.nilpp h372 rfl trivial rfl<|fp h372 rfl trivial rfl fa274_1<|ld 3 rfl trivial rfl sc272 rfl rfl<|mv0 rfl rfl<|Dv.mlv nilP rfl trivial rfl (mem_at 2 rfl) rfl Tryz.underlying272 (keyOk_str Tryz.underlying9) z276 (fun _=>rfl)<|Dv.nilpp h377 rfl trivial rfl<|fp h377 rfl trivial rfl fa278_2<|sx 0 rfl trivial rfl rfl cE sz4 rfl rfl rfl nofun ?_
 refine .fin<|rg 2 0<|bn0 rfl rfl rfl run_add<|mv0 rfl rfl<|.fin<|ng (DNode.shut (p:=((mget (zipK x368.fnodes z373) (strK.at a1.fParents x366)).getD nilP)) (m:=(⟨((mget x368.fnodes (strK.at a1.fParents x366)).getD default).fe,((mget x368.fnodes (strK.at a1.fParents x366)).getD default).fdepth,true⟩:DNode)) g376 h377 (pm 7 [0,1,2,3,4,5,6])) fun _ _=>?_
 refine ng (mpo_unf h374 rfl g375 (pm 7 [0,1,2,3,4,5,6])) fun _ h378=>?_
 refine ng (mpo_shut h378 (zipK_put' rfl g375) (pm 6 [1,0,2,3,4,5])) fun _ _=>?_
 refine ng (DDag.shut (p:=p0_) (m:=(⟨x368.froom,mput x368.fnodes (strK.at a1.fParents x366) (⟨((mget x368.fnodes (strK.at a1.fParents x366)).getD default).fe,((mget x368.fnodes (strK.at a1.fParents x366)).getD default).fdepth,true⟩:DNode)⟩:DDag)) (g371.1,g371.2) h372 (pm 5 [1,0,2,3,4])) fun _ _=>?_
 refine ng (sg 4 [1,2,3,0] 0) fun _ _=>?_
 exact bk j379 (w64 (x366 + 1),max x367 (w64 ((((mget x368.fnodes (strK.at a1.fParents x366)).getD default).fdepth) + 1)),(⟨x368.froom,mput x368.fnodes (strK.at a1.fParents x366) (⟨((mget x368.fnodes (strK.at a1.fParents x366)).getD default).fe,((mget x368.fnodes (strK.at a1.fParents x366)).getD default).fdepth,true⟩:DNode)⟩:DDag)) H
theorem view_View_Add.c {k:Nat} {a0:VView} {a1:Event} {p0_:OV} {r:Int×VView} (h:view_View_Add.f k a0 a1 = some r):Tr Tryz.prog 63 [eq p0_.1,agg (Event.enc a1)] [VView.O p0_ a0] (γ:=Unit) (fun _=>True) (fun g=>vI r.1) (fun g=>[VView.O p0_ r.2]):=by
 unfold view_View_Add.f at h
 refine tb Tryz.func63 Tryz.ntmps63 h fun R0 F H=>?_
 refine WP.seq<|rg 2 1<|Dv.box rfl trivial rfl cA nofun fun b391=>as0 rfl rfl<|.fin<|WP.seq<|rg 5 8<|mv0 rfl rfl<|fb rfl trivial rfl fa107_1<|ld 0 rfl trivial rfl sc9 rfl rfl<|vg (VView.opn 1 rfl) fun g392 h393=>?_
 refine el H fun t394 h395 H=>cx 3 [0,1,2] cal92 (Tr.weak (view_View_room.c h395 (b0_:=g392.1) (v0_0:=g392.2)) (.cons (wk_ptr h393) (.cons wk_id .nil))) nofun fun v396 _=>?_
 refine as0 rfl rfl<|.fin<|WP.seq<|WP.seq<|rg 4 4<|mv0 rfl rfl<|lds 3 rfl trivial rfl sg107 rfl rfl<|el H fun t397 h398 H=>cx 4 [2,0,1,3] cal93 (dag_Dag_Add.c h398 (p0_:=v396)) nofun fun _ _=>?_
 refine as0 rfl rfl<|.fin<|WP.seq<|rg 2 0<|mv0 rfl rfl<|bn0 rfl rfl rfl run_ne<|.fin<|cd H rfl (fun _ H=>?_) (fun _ H=>?_)
 ·
  refine WP.seq<|rg 2 0<|mv0 rfl rfl<|as0 rfl rfl<|.fin<|wg (mpl_back (pm 4 [2,0,1,3])) fun _ _=>?_
  refine wg (VView.shut (p:=p0_) (m:=(⟨mres a0.fdags a1.fRoom t397.2⟩:VView)) (g392.1,g392.2) h393 (pm 3 [1,0,2])) fun _ _=>?_
  cases H.out; exact rt i2 rfl () 2 [1,0] 1 (.cons (res_tmp rfl) .nil)
 refine WP.skip<|WP.seq<|wg (mpl_opn 2 rfl) fun z400 h401=>?_
 refine dg Tryz.checked.mixed 8 128<|mv0 rfl rfl<|Dv.nilpp h393 rfl trivial rfl<|fp h393 rfl trivial rfl fa150_0<|ld 3 rfl trivial rfl sc148 rfl rfl<|fb rfl trivial rfl fa107_1<|ld 4 rfl trivial rfl sc9 rfl rfl<|mv0 rfl rfl<|Dv.mup (vp:=fun p:OV=>eq p.1) (jj:=0) v396 rfl trivial rfl rfl rfl rfl Tryz.underlying148 (keyOk_str Tryz.underlying9) (fun _=>pend_bits (by kernel_rfl))<|.fin<|WP.seq<|rg 1 0<|as0 rfl rfl<|.fin<|wg (mpl_add DDag.nn h401 (pm 5 [0,1,2,3,4])) fun _ _=>?_
 refine wg (VView.shut (p:=p0_) (m:=(⟨mput a0.fdags a1.fRoom t397.2⟩:VView)) (g392.1,g392.2) h393 (pm 3 [1,0,2])) fun _ _=>?_
 cases H.out; exact rt i2 rfl () 2 [1,0] 1 (.cons (res_tmp rfl) .nil)
theorem dag_Dag_Position.c {a0:DDag} {a1:ByteArray} {v0_0:OV} {b0_:Nat} {r:Pos×Bool} (h:dag_Dag_Position.f a0 a1 = some r):Tr Tryz.prog 156 [eq (.pointer (some ⟨b0_,0,none⟩)),vS a1] [blk b0_ 274 [vS a0.froom,eq v0_0.1],mpo Value.string DNode.O v0_0.1 a0.fnodes] (γ:=Unit) (fun _=>True) (fun g=>tup [agg (Pos.enc r.1),vB r.2]) (fun g=>[blk b0_ 274 [vS a0.froom,eq v0_0.1],mpo Value.string DNode.O v0_0.1 a0.fnodes]):=by
 unfold dag_Dag_Position.f at h
 refine tb Tryz.func156 Tryz.ntmps156 h fun R0 F H=>?_
 refine WP.seq<|rg 2 1<|al rfl trivial zc49 nofun fun b402=>as0 rfl rfl<|.fin<|WP.seq<|WP.seq<|rg 4 0<|mv0 rfl rfl<|mv0 rfl rfl<|el H fun t403 h404 H=>cll 3 [1,2,0] cal152 (dag_Dag_Has.c h404 (b0_:=b0_) (v0_0:=v0_0)) ?_
 refine un0 rfl rfl (run_not _)<|.fin<|cd H rfl (fun _ H=>?_) (fun _ H=>?_)
 ·
  refine WP.seq<|rg 3 2<|Dv.bld (qs:=[vI 0,vS (⟨#[]⟩:ByteArray)]) (css:=[]) rfl trivial Tryz.underlying49 pl49 z49 rfl trivial rfl rfl<|sx 0 rfl trivial rfl rfl cA sz49 rfl rfl rfl nofun ?_
  refine as0 rfl rfl<|.fin ?_
  cases H.out; exact rt i2 rfl () 3 [0,1,2] 1 (.cons (res_cells rfl Tryz.underlying49 rfl c49 (mem_at 0 rfl) rfl) (.cons (res_tmp rfl) .nil))
 refine WP.skip<|WP.seq<|rg 13 2048<|mv0 rfl rfl<|Dv.nilp rfl trivial rfl<|fb rfl trivial rfl fa274_1<|ld 1 rfl trivial rfl sc272 rfl rfl<|mv0 rfl rfl<|vg (mpo_opn 2 rfl) fun z406 h407=>?_
 refine Dv.mlv nilP rfl trivial rfl (mem_at 0 rfl) rfl Tryz.underlying272 (keyOk_str Tryz.underlying9) z276 (fun _=>rfl)<|gr H fun g408 H=>vg (mpo_foc h407 rfl g408 (pm 4 [1,0,2,3])) fun _ _=>?_
 refine Dv.nilA DNode.nn rfl trivial rfl (mem_at 0 rfl)<|vg (DNode.opn 0 rfl) fun g409 h410=>?_
 refine fp h410 rfl trivial rfl fa278_1<|ld 0 rfl trivial rfl sc3 rfl rfl<|mv0 rfl rfl<|Dv.bld (qs:=[vI (((mget a0.fnodes a1).getD default).fdepth),vS a1]) (css:=[[vI (((mget a0.fnodes a1).getD default).fdepth)],[vS a1]]) rfl trivial Tryz.underlying49 pl49 z49 rfl ⟨(cells_one (one_eq rfl)),⟨(cells_one (one_eq rfl)),trivial⟩⟩ rfl rfl<|sx 3 rfl trivial rfl rfl cA sz49 rfl rfl rfl nofun ?_
 refine as0 rfl rfl<|.fin<|wg (DNode.shut (p:=((mget (zipK a0.fnodes z406) a1).getD nilP)) (m:=(mget a0.fnodes a1).getD default) g409 h410 (pm 5 [0,1,2,3,4])) fun _ _=>?_
 refine wg (mpo_unf0 h407 rfl g408 (pm 5 [0,1,2,3,4])) fun _ _=>?_
 refine wg (mpo_shut h407 rfl (pm 4 [1,0,2,3])) fun _ _=>?_
 cases H.out; exact rt i2 rfl () 3 [1,2,0] 1 (.cons (res_cells rfl Tryz.underlying49 rfl c49 (mem_at 1 rfl) rfl) (.cons (res_tmp rfl) .nil))
theorem view_View_Position.c {a0:VView} {a1:ByteArray} {a2:ByteArray} {v0_0:OV} {b0_:Nat} {r:Pos×Bool} (h:view_View_Position.f a0 a1 a2 = some r):Tr Tryz.prog 94 [eq (.pointer (some ⟨b0_,0,none⟩)),vS a1,vS a2] [blk b0_ 150 [eq v0_0.1],mpo Value.string DDag.O v0_0.1 a0.fdags] (γ:=Unit) (fun _=>True) (fun g=>tup [agg (Pos.enc r.1),vB r.2]) (fun g=>[blk b0_ 150 [eq v0_0.1],mpo Value.string DDag.O v0_0.1 a0.fdags]):=by
 unfold view_View_Position.f at h
 refine tb Tryz.func94 Tryz.ntmps94 h fun R0 F H=>?_
 refine WP.seq<|rg 2 1<|al rfl trivial zc49 nofun fun b411=>as0 rfl rfl<|.fin<|WP.seq<|rg 9 132<|mv0 rfl rfl<|mv0 rfl rfl<|el H fun t412 h413 H=>cx 3 [1,2,0] cal92 (view_View_room.c h413 (b0_:=b0_) (v0_0:=v0_0)) nofun fun v414 _=>?_
 refine mv0 rfl rfl<|vg (DDag.opn 2 rfl) fun g415 h416=>?_
 refine el H fun t417 h418 H=>cll 5 [0,1,2,3,4] cal156 (Tr.weak (dag_Dag_Position.c h418 (b0_:=g415.1) (v0_0:=g415.2)) (.cons (wk_ptr h416) (.cons wk_id .nil))) ?_
 refine ex0 rfl trivial rfl rfl<|ex0 rfl trivial rfl rfl<|sx 4 rfl trivial rfl rfl cA sz49 rfl rfl rfl nofun ?_
 refine as0 rfl rfl<|.fin<|wg (DDag.shut (p:=v414) (m:=t412) (g415.1,g415.2) h416 (pm 5 [0,1,2,3,4])) fun _ _=>?_
 refine wg (mpl_back0 (view_View_room.r h413) (pm 4 [2,0,1,3])) fun _ _=>?_
 cases H.out; exact rt i2 rfl () 3 [2,1,0] 1 (.cons (res_cells rfl Tryz.underlying49 rfl c49 (mem_at 2 rfl) rfl) (.cons (res_tmp rfl) .nil))
theorem marks_Of.c {a0:Edu} {r:RKey} (h:marks_Of.f a0 = some r):Pt Tryz.prog 98 [agg (Edu.enc a0)] (agg (RKey.enc r)):=by
 unfold marks_Of.f at h
 refine pb Tryz.func98 Tryz.ntmps98 h fun R0 F H=>?_
 refine WP.seq<|rg 2 3<|Dv.box rfl trivial rfl cA nofun fun b419=>al rfl trivial zc47 nofun fun b420=>.fin<|WP.seq<|rg 10 512<|fb rfl trivial rfl fa80_1<|ld 1 rfl trivial rfl sc9 rfl rfl<|fb rfl trivial rfl fa80_2<|ld 1 rfl trivial rfl sc9 rfl rfl<|fb rfl trivial rfl fa80_4<|ld 1 rfl trivial rfl sc9 rfl rfl<|fb rfl trivial rfl fa80_5<|ld 1 rfl trivial rfl sc4 rfl rfl<|Dv.bld (qs:=[vS a0.fRoom,vS a0.fUser,vS a0.fThread,vB a0.fPrivate]) (css:=[[vS a0.fRoom],[vS a0.fUser],[vS a0.fThread],[vB a0.fPrivate]]) rfl trivial Tryz.underlying47 pl47 z47 rfl ⟨(cells_one (one_eq rfl)),⟨(cells_one (one_eq rfl)),⟨(cells_one (one_eq rfl)),⟨(cells_one (one_eq rfl)),trivial⟩⟩⟩⟩ rfl rfl<|sx 0 rfl trivial rfl rfl cA sz47 rfl rfl rfl nofun ?_
 refine .fin ?_
 cases H.out; exact r2 i2 rfl (.cons (res_cells rfl Tryz.underlying47 rfl c47 (mem_at 0 rfl) rfl) .nil)
theorem edu_asks_1.c {a0:Int} {a1:Int} {a2:Int} {r:Bool} (h:edu_asks_1.f a0 a1 a2 = some r):Pt Tryz.prog 250 [vI a0,vI a1,vI a2] (vB r):=by
 unfold edu_asks_1.f at h
 refine pb Tryz.func250 Tryz.ntmps250 h fun R0 F H=>?_
 refine WP.seq<|rg 1 0<|as0 rfl rfl<|.fin<|WP.seq<|rg 9 0<|mv0 rfl rfl<|mv0 rfl rfl<|bn0 rfl rfl rfl run_ge<|mv0 rfl rfl ?_
 cases c421:decide (a1≤a0)
 ·
  have H:=H.cf c421
  refine sk rfl rfl<|sk rfl rfl<|sk rfl rfl<|pf0 rfl rfl rfl<|as0 rfl rfl<|.fin ?_
  cases H.out; exact r0 i2 rfl (.cons (res_tmp rfl) .nil)
 have H:=H.ct c421
 refine mvg rfl rfl rfl<|mvg rfl rfl rfl<|bng rfl rfl rfl rfl run_le<|pt0 rfl rfl rfl<|as0 rfl rfl<|.fin ?_
 cases H.out; exact r0 i2 rfl (.cons (res_tmp rfl) .nil)
theorem edu_asks_2.c {a0:Edu} {r:Bool} (h:edu_asks_2.f a0 = some r):Pt Tryz.prog 251 [agg (Edu.enc a0)] (vB r):=by
 unfold edu_asks_2.f at h
 refine pb Tryz.func251 Tryz.ntmps251 h fun R0 F H=>?_
 refine WP.seq<|rg 2 1<|Dv.box rfl trivial rfl cA nofun fun b422=>as0 rfl rfl<|.fin<|WP.seq<|rg 1 0<|as0 rfl rfl<|.fin ?_
 cases H.out; exact r1 i2 rfl (.cons (res_tmp rfl) .nil)
theorem name_Thread.c {k:Nat} {a0:ByteArray} {r:Bool} (h:name_Thread.f k a0 = some r):Pt Tryz.prog 253 [vS a0] (vB r):=by
 unfold name_Thread.f at h
 refine pb Tryz.func253 Tryz.ntmps253 h fun R0 F H=>?_
 refine WP.seq<|rg 1 0<|as0 rfl rfl<|.fin<|WP.seq<|rg 11 0<|mv0 rfl rfl<|bn0 rfl rfl rfl run_seq<|mv0 rfl rfl ?_
 cases c423:decide (a0 = (⟨#[]⟩:ByteArray))
 rotate_left
 ·
  have H:=H.ct c423
  refine sk rfl rfl<|sk rfl rfl<|pt0 rfl rfl rfl<|mv0 rfl rfl<|sk rfl rfl<|sk rfl rfl<|pt0 rfl rfl rfl<|as0 rfl rfl<|.fin ?_
  cases H.out; exact r0 i2 rfl (.cons (res_tmp rfl) .nil)
 have H:=H.cf c423
 refine mvg rfl rfl rfl<|bng rfl rfl rfl rfl run_seq<|pf0 rfl rfl rfl<|mv0 rfl rfl ?_
 cases c424:decide (a0 = (⟨#[109,97,105,110]⟩:ByteArray))
 rotate_left
 ·
  have H:=H.ct c424
  refine sk rfl rfl<|sk rfl rfl<|pt0 rfl rfl rfl<|as0 rfl rfl<|.fin ?_
  cases H.out; exact r0 i2 rfl (.cons (res_tmp rfl) .nil)
 have H:=H.cf c424
 refine mvg rfl rfl rfl<|el H fun t425 h426 H=>Dv.call rfl (gg rfl) cal222 rfl (name_Event.c h426)<|pf0 rfl rfl rfl<|as0 rfl rfl<|.fin ?_
 cases H.out; exact r0 i2 rfl (.cons (res_tmp rfl) .nil)
theorem edu_asks_3.c {k:Nat} {a0:Edu} {r:Bool} (h:edu_asks_3.f k a0 = some r):Pt Tryz.prog 252 [agg (Edu.enc a0)] (vB r):=by
 unfold edu_asks_3.f at h
 refine pb Tryz.func252 Tryz.ntmps252 h fun R0 F H=>?_
 refine WP.seq<|rg 2 1<|Dv.box rfl trivial rfl cA nofun fun b427=>as0 rfl rfl<|.fin<|WP.seq<|rg 14 0<|fb rfl trivial rfl fa80_1<|ld 0 rfl trivial rfl sc9 rfl rfl<|el H fun t428 h429 H=>cl rfl cal203 rfl (name_Room.c h429)<|mv0 rfl rfl ?_
 cases c430:t428
 ·
  have H:=H.cf c430
  refine sk rfl rfl<|sk rfl rfl<|sk rfl rfl<|pf0 rfl rfl rfl<|mv0 rfl rfl<|sk rfl rfl<|sk rfl rfl<|sk rfl rfl<|pf0 rfl rfl rfl<|as0 rfl rfl<|.fin ?_
  cases H.out; exact r1 i2 rfl (.cons (res_tmp rfl) .nil)
 have H:=H.ct c430
 refine fb rfl (gg rfl) rfl fa80_3<|ld 0 rfl (gg rfl) rfl sc9 rfl rfl<|el H fun t431 h432 H=>Dv.call rfl (gg rfl) cal222 rfl (name_Event.c h432)<|pt0 rfl rfl rfl<|mv0 rfl rfl ?_
 cases c433:t431
 ·
  have H:=H.cf c433
  refine sk rfl rfl<|sk rfl rfl<|sk rfl rfl<|pf0 rfl rfl rfl<|as0 rfl rfl<|.fin ?_
  cases H.out; exact r1 i2 rfl (.cons (res_tmp rfl) .nil)
 have H:=H.ct c433
 refine fb rfl (gg rfl) rfl fa80_4<|ld 0 rfl (gg rfl) rfl sc9 rfl rfl<|el H fun t434 h435 H=>Dv.call rfl (gg rfl) cal253 rfl (name_Thread.c h435)<|pt0 rfl rfl rfl<|as0 rfl rfl<|.fin ?_
 cases H.out; exact r1 i2 rfl (.cons (res_tmp rfl) .nil)
theorem edu_asks_4.c {k:Nat} {a0:Edu} {c0:Int→Int→Int→Option Bool} {r:Bool} (h:edu_asks_4.f k a0 c0 = some r):Pt Tryz.prog 254 [agg (Edu.enc a0),rp [fq_int_int_int_bool c0]] (vB r):=by
 unfold edu_asks_4.f at h
 refine pb Tryz.func254 Tryz.ntmps254 h fun R0 F H=>?_
 refine WP.seq<|rg 2 1<|Dv.box rfl trivial rfl cA nofun fun b436=>as0 rfl rfl<|.fin<|WP.seq<|rg 15 0<|fb rfl trivial rfl fa80_1<|ld 0 rfl trivial rfl sc9 rfl rfl<|el H fun t437 h438 H=>cl rfl cal203 rfl (name_Room.c h438)<|mv0 rfl rfl ?_
 cases c439:t437
 ·
  have H:=H.cf c439
  refine sk rfl rfl<|sk rfl rfl<|sk rfl rfl<|sk rfl rfl<|sku rfl rfl<|sku rfl rfl<|sku rfl rfl<|sku rfl rfl<|sk rfl rfl<|pf0 rfl rfl rfl<|as0 rfl rfl<|.fin ?_
  cases H.out; exact r1 i2 rfl (.cons (res_tmp rfl) .nil)
 have H:=H.ct c439
 refine fb rfl (gg rfl) rfl fa80_6<|ld 0 rfl (gg rfl) rfl sc4 rfl rfl<|ung rfl rfl rfl (run_not _)<|mvg rfl rfl rfl ?_
 cases c440:!a0.fOn
 rotate_left
 ·
  have H:=H.ct c440
  refine sk rfl rfl<|sk rfl rfl<|sk rfl rfl<|sk rfl rfl<|ptg rfl rfl rfl rfl<|pt0 rfl rfl rfl<|as0 rfl rfl<|.fin ?_
  cases H.out; exact r1 i2 rfl (.cons (res_tmp rfl) .nil)
 have H:=H.cf c440
 refine ldR rfl (gg rfl) rfl sc370 rfl<|fb rfl (gg rfl) rfl fa80_7<|ld 0 rfl (gg rfl) rfl sc3 rfl rfl<|el H fun t441 h442 H=>Dv.callq (ret:=vB t441) rfl (gg rfl) rfl rfl ⟨_,_,_,_,h442,rfl,rfl⟩<|pfg rfl rfl rfl rfl<|pt0 rfl rfl rfl<|as0 rfl rfl<|.fin ?_
 cases H.out; exact r1 i2 rfl (.cons (res_tmp rfl) .nil)
theorem edu_asks_5.c {a0:Edu} {c0:Int→Int→Int→Option Bool} {r:Bool} (h:edu_asks_5.f a0 c0 = some r):Pt Tryz.prog 255 [agg (Edu.enc a0),rp [fq_int_int_int_bool c0]] (vB r):=by
 unfold edu_asks_5.f at h
 refine pb Tryz.func255 Tryz.ntmps255 h fun R0 F H=>?_
 refine WP.seq<|rg 2 1<|Dv.box rfl trivial rfl cA nofun fun b443=>as0 rfl rfl<|.fin<|WP.seq<|rg 5 0<|ldR rfl trivial rfl sc370 rfl<|fb rfl trivial rfl fa80_8<|ld 0 rfl trivial rfl sc3 rfl rfl<|el H fun t444 h445 H=>Dv.callq (ret:=vB t444) rfl trivial rfl rfl ⟨_,_,_,_,h445,rfl,rfl⟩<|as0 rfl rfl<|.fin ?_
 cases H.out; exact r1 i2 rfl (.cons (res_tmp rfl) .nil)
theorem edu_asks.c {k:Nat} {r:(List (Edu→Option Bool))} (h:edu_asks.f k = some r):Pt Tryz.prog 199 [] (sl fK_api_Edu_bool r):=by
 unfold edu_asks.f at h
 refine pb Tryz.func199 Tryz.ntmps199 h fun R0 F H=>?_
 refine WP.seq<|rg 1 0<|as0 rfl rfl<|.fin<|WP.seq<|rg 2 3<|al rfl trivial zc370 nofun fun b446=>sx 0 rfl trivial rfl rfl cE sz370 rfl rfl rfl nofun ?_
 refine .fin<|WP.seq<|rg 4 0<|Dv.gh (gh_frzb (E':=[(0,eq (.slice none 0 0)),(1,rp [eq (.func (.func 250) #[] #[])])]) (l':=F) 0 rfl (cve_cons rfl cv_id (cve_cons rfl cv_eq cve_nil)) (all2_app .nil fun _=>cva_id)) (fun _ _=>?_)
 refine Dv.mkf (Q:=fqQ_api_Edu_bool (fun a0_=>edu_asks_4.f k a0_ edu_asks_1.f)) cal254 (by rintro _ _ ⟨a0_,r_,h_,rfl,rfl⟩; exact Pt.weak (edu_asks_4.c h_) (.cons wk_id (.cons (wk_rp (.cons (wk_fn cal250 (by rintro _ _ ⟨a0_,a1_,a2_,r_,h_,rfl,rfl⟩; exact edu_asks_1.c h_)) .nil)) .nil))) rfl trivial rfl rfl<|Dv.mkf (Q:=fqQ_api_Edu_bool (fun a0_=>edu_asks_5.f a0_ edu_asks_1.f)) cal255 (by rintro _ _ ⟨a0_,r_,h_,rfl,rfl⟩; exact Pt.weak (edu_asks_5.c h_) (.cons wk_id (.cons (wk_rp (.cons (wk_fn cal250 (by rintro _ _ ⟨a0_,a1_,a2_,r_,h_,rfl,rfl⟩; exact edu_asks_1.c h_)) .nil)) .nil))) rfl trivial rfl rfl<|Dv.lit fK_api_Edu_bool ([edu_asks_2.f,edu_asks_3.f k,fun a0_=>edu_asks_4.f k a0_ edu_asks_1.f,fun a0_=>edu_asks_5.f a0_ edu_asks_1.f]:List (Edu→Option Bool)) (css:=[[fq_api_Edu_bool edu_asks_2.f],[fq_api_Edu_bool (edu_asks_3.f k)],[fq_api_Edu_bool (fun a0_=>edu_asks_4.f k a0_ edu_asks_1.f)],[fq_api_Edu_bool (fun a0_=>edu_asks_5.f a0_ edu_asks_1.f)]]) rfl trivial Tryz.underlying327 Tryz.underlying78 c78 z78 rfl (by decide) (by decide) rfl ⟨(cells_wk (wk_fn cal251 (by rintro _ _ ⟨a0_,r_,h_,rfl,rfl⟩; exact edu_asks_2.c h_)) (one_eq rfl)),⟨(cells_wk (wk_fn cal252 (by rintro _ _ ⟨a0_,r_,h_,rfl,rfl⟩; exact edu_asks_3.c h_)) (one_eq rfl)),⟨(cells_one one_fnq),⟨(cells_one one_fnq),trivial⟩⟩⟩⟩ rfl rfl rfl<|as0 rfl rfl<|.fin ?_
 cases H.out; exact r0 i2 rfl (.cons (res_tmp rfl) .nil)
theorem edu_Local_1.c {a0:Int} {r:Bool} (h:edu_Local_1.f a0 = some r):Pt Tryz.prog 200 [vI a0] (vB r):=by
 unfold edu_Local_1.f at h
 refine pb Tryz.func200 Tryz.ntmps200 h fun R0 F H=>?_
 refine WP.seq<|rg 1 0<|as0 rfl rfl<|.fin<|WP.seq<|rg 7 0<|mv0 rfl rfl<|bn0 rfl rfl rfl run_ge<|mv0 rfl rfl ?_
 cases c447:decide (0≤a0)
 ·
  have H:=H.cf c447
  refine sk rfl rfl<|sk rfl rfl<|pf0 rfl rfl rfl<|as0 rfl rfl<|.fin ?_
  cases H.out; exact r0 i2 rfl (.cons (res_tmp rfl) .nil)
 have H:=H.ct c447
 refine mvg rfl rfl rfl<|bng rfl rfl rfl rfl run_le<|pt0 rfl rfl rfl<|as0 rfl rfl<|.fin ?_
 cases H.out; exact r0 i2 rfl (.cons (res_tmp rfl) .nil)
theorem edu_named.c {a0:Edu} {r:Edu} (h:edu_named.f a0 = some r):Pt Tryz.prog 201 [agg (Edu.enc a0)] (agg (Edu.enc r)):=by
 unfold edu_named.f at h
 refine pb Tryz.func201 Tryz.ntmps201 h fun R0 F H=>?_
 refine WP.seq<|rg 2 3<|Dv.box rfl trivial rfl cA nofun fun b448=>al rfl trivial zc80 nofun fun b449=>.fin<|WP.seq<|rg 11 1536<|fb rfl trivial rfl fa80_0<|ld 1 rfl trivial rfl sc3 rfl rfl<|fb rfl trivial rfl fa80_2<|ld 1 rfl trivial rfl sc9 rfl rfl<|fb rfl trivial rfl fa80_9<|ld 1 rfl trivial rfl sc3 rfl rfl<|fb rfl trivial rfl fa80_10<|ld 1 rfl trivial rfl sc3 rfl rfl<|Dv.bld (qs:=[vI a0.fKind,vS (⟨#[]⟩:ByteArray),vS a0.fUser,vS (⟨#[]⟩:ByteArray),vS (⟨#[]⟩:ByteArray),vB false,vB false,vI 0,vI 0,vI a0.fTick,vI a0.fStamp]) (css:=[[vI a0.fKind],[vS a0.fUser],[vI a0.fTick],[vI a0.fStamp]]) rfl trivial Tryz.underlying80 pl80 z80 rfl ⟨(cells_one (one_eq rfl)),⟨(cells_one (one_eq rfl)),⟨(cells_one (one_eq rfl)),⟨(cells_one (one_eq rfl)),trivial⟩⟩⟩⟩ rfl rfl<|al rfl trivial zc80 nofun fun b450=>sx 0 rfl trivial rfl rfl cA sz80 rfl rfl rfl nofun ?_
 refine .fin<|WP.seq<|WP.seq<|rg 2 0<|fb rfl trivial rfl fa80_0<|ld 2 rfl trivial rfl sc3 rfl rfl<|.fin<|WP.block<|WP.seq<|rg 2 0<|bn0 rfl rfl rfl run_eq<|as0 rfl rfl<|.fin<|cd H rfl (fun _ H=>?_) (fun _ H=>?_)
 ·
  refine dg Tryz.checked.mixed 16 43520<|fb rfl trivial rfl fa80_1<|ld 2 rfl trivial rfl sc9 rfl rfl<|fb rfl trivial rfl fa80_3<|ld 2 rfl trivial rfl sc9 rfl rfl<|fb rfl trivial rfl fa80_4<|ld 2 rfl trivial rfl sc9 rfl rfl<|fb rfl trivial rfl fa80_5<|ld 2 rfl trivial rfl sc4 rfl rfl<|fb rfl trivial rfl fa80_1<|sx 0 rfl trivial rfl rfl cE sz9 rfl rfl rfl (fun _=>(pend_by (by kernel_rfl) (pend_in (fun _=>(mem_at 2 rfl)) (pend_in (fun _=>trivial) (pend_in (fun _=>(mem_at 2 rfl)) (pend_in (fun _=>trivial) (pend_in (fun _=>(mem_at 2 rfl)) (pend_in (fun _=>trivial) (pend_by (by kernel_rfl) (pend_by (by kernel_rfl) pend_nil)))))))))) ?_
  refine fb rfl trivial rfl fa80_3<|sx 0 rfl trivial rfl rfl cE sz9 rfl rfl rfl (fun _=>(pend_by (by kernel_rfl) (pend_by (by kernel_rfl) (pend_in (fun _=>(mem_at 2 rfl)) (pend_in (fun _=>trivial) (pend_in (fun _=>(mem_at 2 rfl)) (pend_in (fun _=>trivial) (pend_by (by kernel_rfl) (pend_by (by kernel_rfl) (pend_by (by kernel_rfl) (pend_by (by kernel_rfl) pend_nil))))))))))) ?_
  refine fb rfl trivial rfl fa80_4<|sx 0 rfl trivial rfl rfl cE sz9 rfl rfl rfl (fun _=>(pend_by (by kernel_rfl) (pend_by (by kernel_rfl) (pend_by (by kernel_rfl) (pend_in (fun _=>(mem_at 2 rfl)) (pend_in (fun _=>trivial) (pend_by (by kernel_rfl) (pend_by (by kernel_rfl) (pend_by (by kernel_rfl) (pend_by (by kernel_rfl) (pend_by (by kernel_rfl) (pend_by (by kernel_rfl) pend_nil)))))))))))) ?_
  refine fb rfl trivial rfl fa80_5<|sx 0 rfl trivial rfl rfl cE sz4 rfl rfl rfl pB ?_
  refine .fin<|WP.seq<|rg 2 2<|lds 0 rfl trivial rfl sg80 rfl rfl<|sx 1 rfl trivial rfl rfl cA sz80 rfl rfl rfl nofun ?_
  refine .fin ?_
  cases H.out; exact r3 i2 rfl (.cons (res_cells rfl Tryz.underlying80 rfl c80 (mem_at 1 rfl) rfl) .nil)
 refine WP.seq<|rg 2 0<|bn0 rfl rfl rfl run_eq<|as0 rfl rfl<|.fin<|cd H rfl (fun _ H=>?_) (fun _ H=>?_)
 rotate_left
 ·
  refine WP.seq<|rg 2 0<|bn0 rfl rfl rfl run_eq<|as0 rfl rfl<|.fin<|cd H rfl (fun _ H=>?_) (fun _ H=>?_)
  rotate_left
  ·
   refine WP.skip<|WP.seq<|rg 2 2<|lds 0 rfl trivial rfl sg80 rfl rfl<|sx 1 rfl trivial rfl rfl cA sz80 rfl rfl rfl nofun ?_
   refine .fin ?_
   cases H.out; exact r3 i2 rfl (.cons (res_cells rfl Tryz.underlying80 rfl c80 (mem_at 1 rfl) rfl) .nil)
  refine rg 4 8<|fb rfl trivial rfl fa80_8<|ld 2 rfl trivial rfl sc3 rfl rfl<|fb rfl trivial rfl fa80_8<|sx 0 rfl trivial rfl rfl cE sz3 rfl rfl rfl nofun ?_
  refine .fin<|WP.seq<|rg 2 2<|lds 0 rfl trivial rfl sg80 rfl rfl<|sx 1 rfl trivial rfl rfl cA sz80 rfl rfl rfl nofun ?_
  refine .fin ?_
  cases H.out; exact r3 i2 rfl (.cons (res_cells rfl Tryz.underlying80 rfl c80 (mem_at 1 rfl) rfl) .nil)
 refine WP.seq<|dg Tryz.checked.mixed 8 160<|fb rfl trivial rfl fa80_1<|ld 2 rfl trivial rfl sc9 rfl rfl<|fb rfl trivial rfl fa80_6<|ld 2 rfl trivial rfl sc4 rfl rfl<|fb rfl trivial rfl fa80_1<|sx 0 rfl trivial rfl rfl cE sz9 rfl rfl rfl (fun _=>(pend_by (by kernel_rfl) (pend_in (fun _=>(mem_at 2 rfl)) (pend_in (fun _=>trivial) (pend_by (by kernel_rfl) (pend_by (by kernel_rfl) pend_nil)))))) ?_
 refine fb rfl trivial rfl fa80_6<|sx 0 rfl trivial rfl rfl cE sz4 rfl rfl rfl pB ?_
 refine .fin<|WP.seq<|rg 2 0<|fb rfl trivial rfl fa80_6<|ld 2 rfl trivial rfl sc4 rfl rfl<|.fin<|cd H rfl (fun _ H=>?_) (fun _ H=>?_)
 rotate_left
 ·
  refine WP.skip<|WP.seq<|rg 2 2<|lds 0 rfl trivial rfl sg80 rfl rfl<|sx 1 rfl trivial rfl rfl cA sz80 rfl rfl rfl nofun ?_
  refine .fin ?_
  cases H.out; exact r3 i2 rfl (.cons (res_cells rfl Tryz.underlying80 rfl c80 (mem_at 1 rfl) rfl) .nil)
 refine rg 4 8<|fb rfl trivial rfl fa80_7<|ld 2 rfl trivial rfl sc3 rfl rfl<|fb rfl trivial rfl fa80_7<|sx 0 rfl trivial rfl rfl cE sz3 rfl rfl rfl nofun ?_
 refine .fin<|WP.seq<|rg 2 2<|lds 0 rfl trivial rfl sg80 rfl rfl<|sx 1 rfl trivial rfl rfl cA sz80 rfl rfl rfl nofun ?_
 refine .fin ?_
 cases H.out; exact r3 i2 rfl (.cons (res_cells rfl Tryz.underlying80 rfl c80 (mem_at 1 rfl) rfl) .nil)
theorem edu_Local.c {k:Nat} {a0:Edu} {r:Bool} (h:edu_Local.f k a0 = some r):Pt Tryz.prog 128 [agg (Edu.enc a0)] (vB r):=by
 unfold edu_Local.f at h
 refine pb Tryz.func128 Tryz.ntmps128 h fun R0 F H=>?_
 refine WP.seq<|rg 2 1<|Dv.box rfl trivial rfl cA nofun fun b455=>as0 rfl rfl<|.fin<|WP.seq<|WP.seq<|dg Tryz.checked.mixed 18 0<|fb rfl trivial rfl fa80_0<|ld 0 rfl trivial rfl sc3 rfl rfl<|bn0 rfl rfl rfl run_lt<|mv0 rfl rfl ?_
 cases c456:decide (a0.fKind < 0)
 rotate_left
 ·
  have H:=H.ct c456
  refine sk rfl rfl<|sk rfl rfl<|sk rfl rfl<|pt0 rfl rfl rfl<|mv0 rfl rfl<|sk rfl rfl<|sk rfl rfl<|sk rfl rfl<|sk rfl rfl<|sk rfl rfl<|sk rfl rfl<|sk rfl rfl<|sk rfl rfl<|pt0 rfl rfl rfl<|.fin<|WP.cond rfl (fun _=>?_) nofun
  refine WP.seq<|rg 1 0<|as0 rfl rfl<|.fin ?_
  cases H.out; exact r1 i2 rfl (.cons (res_tmp rfl) .nil)
 have H:=H.cf c456
 refine fb rfl (gg rfl) rfl fa80_0<|ld 0 rfl (gg rfl) rfl sc3 rfl rfl<|bng rfl rfl rfl rfl run_gt<|pf0 rfl rfl rfl<|mv0 rfl rfl ?_
 cases c458:decide (3 < a0.fKind)
 rotate_left
 ·
  have H:=H.ct c458
  refine sk rfl rfl<|sk rfl rfl<|sk rfl rfl<|sk rfl rfl<|sk rfl rfl<|sk rfl rfl<|sk rfl rfl<|sk rfl rfl<|pt0 rfl rfl rfl<|.fin<|WP.cond rfl (fun _=>?_) nofun
  refine WP.seq<|rg 1 0<|as0 rfl rfl<|.fin ?_
  cases H.out; exact r1 i2 rfl (.cons (res_tmp rfl) .nil)
 have H:=H.cf c458
 refine el H fun t460 h461 H=>Dv.call rfl (gg rfl) cal199 rfl (edu_asks.c h461)<|fb rfl (gg rfl) rfl fa80_0<|ld 0 rfl (gg rfl) rfl sc3 rfl rfl<|gr H fun g462 H=>Dv.ixr rfl (gg rfl) rfl rfl Tryz.underlying327 Tryz.underlying78 c78 g462.1 g462.2<|ldR rfl (gg rfl) rfl sc78 rfl<|lds 0 rfl (gg rfl) rfl sg80 rfl rfl<|el H fun t463 h464 H=>Dv.callq (ret:=vB t463) rfl (gg rfl) rfl rfl ⟨_,_,h464,rfl,rfl⟩<|ung rfl rfl rfl (run_not _)<|pf0 rfl rfl rfl<|.fin<|cd H rfl (fun _ H=>?_) (fun _ H=>?_)
 ·
  refine WP.seq<|rg 1 0<|as0 rfl rfl<|.fin ?_
  cases H.out; exact r1 i2 rfl (.cons (res_tmp rfl) .nil)
 refine WP.skip<|WP.seq<|rg 1 0<|as0 rfl rfl<|.fin<|WP.seq<|dg Tryz.checked.mixed 22 0<|lds 0 rfl trivial rfl sg80 rfl rfl<|lds 0 rfl trivial rfl sg80 rfl rfl<|el H fun t466 h467 H=>cl rfl cal201 rfl (edu_named.c h467)<|Dv.eqs [.int .i64 a0.fKind,.string a0.fRoom,.string a0.fUser,.string a0.fEvent,.string a0.fThread,.bool a0.fPrivate,.bool a0.fOn,.int .i64 a0.fSpan,.int .i64 a0.fState,.int .i64 a0.fTick,.int .i64 a0.fStamp] [.int .i64 t466.fKind,.string t466.fRoom,.string t466.fUser,.string t466.fEvent,.string t466.fThread,.bool t466.fPrivate,.bool t466.fOn,.int .i64 t466.fSpan,.int .i64 t466.fState,.int .i64 t466.fTick,.int .i64 t466.fStamp] rfl trivial rfl rfl rfl rfl eg80 (fun _=>equal_of 2 (by decide) (fun _=>eqt80 a0 t466))<|mv0 rfl rfl ?_
 cases c468:decide (a0 = t466)
 ·
  have H:=H.cf c468
  refine sk rfl rfl<|sk rfl rfl<|sk rfl rfl<|pf0 rfl rfl rfl<|mv0 rfl rfl<|sk rfl rfl<|sk rfl rfl<|sk rfl rfl<|sk rfl rfl<|pf0 rfl rfl rfl<|mv0 rfl rfl<|sk rfl rfl<|sk rfl rfl<|sk rfl rfl<|sk rfl rfl<|pf0 rfl rfl rfl<|as0 rfl rfl<|.fin ?_
  cases H.out; exact r1 i2 rfl (.cons (res_tmp rfl) .nil)
 have H:=H.ct c468
 refine fb rfl (gg rfl) rfl fa80_2<|ld 0 rfl (gg rfl) rfl sc9 rfl rfl<|el H fun t469 h470 H=>Dv.call rfl (gg rfl) cal202 rfl (name_User.c h470)<|pt0 rfl rfl rfl<|mv0 rfl rfl ?_
 cases c471:t469
 ·
  have H:=H.cf c471
  refine sk rfl rfl<|sk rfl rfl<|sk rfl rfl<|sk rfl rfl<|pf0 rfl rfl rfl<|mv0 rfl rfl<|sk rfl rfl<|sk rfl rfl<|sk rfl rfl<|sk rfl rfl<|pf0 rfl rfl rfl<|as0 rfl rfl<|.fin ?_
  cases H.out; exact r1 i2 rfl (.cons (res_tmp rfl) .nil)
 have H:=H.ct c471
 refine mvg rfl rfl rfl<|fb rfl (gg rfl) rfl fa80_9<|ld 0 rfl (gg rfl) rfl sc3 rfl rfl<|el H fun t472 h473 H=>Dv.callk rfl (gg rfl) rfl cal200 rfl (edu_Local_1.c h473)<|pt0 rfl rfl rfl<|mv0 rfl rfl ?_
 cases c474:t472
 ·
  have H:=H.cf c474
  refine sk rfl rfl<|sk rfl rfl<|sk rfl rfl<|sk rfl rfl<|pf0 rfl rfl rfl<|as0 rfl rfl<|.fin ?_
  cases H.out; exact r1 i2 rfl (.cons (res_tmp rfl) .nil)
 have H:=H.ct c474
 refine mvg rfl rfl rfl<|fb rfl (gg rfl) rfl fa80_10<|ld 0 rfl (gg rfl) rfl sc3 rfl rfl<|el H fun t475 h476 H=>Dv.callk rfl (gg rfl) rfl cal200 rfl (edu_Local_1.c h476)<|pt0 rfl rfl rfl<|as0 rfl rfl<|.fin ?_
 cases H.out; exact r1 i2 rfl (.cons (res_tmp rfl) .nil)
theorem dag_Dag_Event.c {a0:DDag} {a1:ByteArray} {v0_0:OV} {b0_:Nat} {r:Event×Bool} (h:dag_Dag_Event.f a0 a1 = some r):Tr Tryz.prog 224 [eq (.pointer (some ⟨b0_,0,none⟩)),vS a1] [blk b0_ 274 [vS a0.froom,eq v0_0.1],mpo Value.string DNode.O v0_0.1 a0.fnodes] (γ:=Unit) (fun _=>True) (fun g=>tup [agg (Event.enc r.1),vB r.2]) (fun g=>[blk b0_ 274 [vS a0.froom,eq v0_0.1],mpo Value.string DNode.O v0_0.1 a0.fnodes]):=by
 unfold dag_Dag_Event.f at h
 refine tb Tryz.func224 Tryz.ntmps224 h fun R0 F H=>?_
 refine WP.seq<|rg 2 1<|al rfl trivial zc107 nofun fun b477=>as0 rfl rfl<|.fin<|WP.seq<|WP.seq<|rg 4 0<|mv0 rfl rfl<|mv0 rfl rfl<|el H fun t478 h479 H=>cll 3 [1,2,0] cal152 (dag_Dag_Has.c h479 (b0_:=b0_) (v0_0:=v0_0)) ?_
 refine un0 rfl rfl (run_not _)<|.fin<|cd H rfl (fun _ H=>?_) (fun _ H=>?_)
 ·
  refine WP.seq<|rg 3 2<|Dv.bld (qs:=[vS (⟨#[]⟩:ByteArray),vS (⟨#[]⟩:ByteArray),eq (.slice none 0 0),vS (⟨#[]⟩:ByteArray),vS (⟨#[]⟩:ByteArray),vI 0]) (css:=[]) rfl trivial Tryz.underlying107 pl107 z107 rfl trivial rfl rfl<|sx 0 rfl trivial rfl rfl cA sz107 rfl rfl rfl nofun ?_
  refine as0 rfl rfl<|.fin ?_
  cases H.out; exact rt i2 rfl () 3 [0,1,2] 1 (.cons (res_wk (res_cells rfl Tryz.underlying107 rfl c107 (mem_at 0 rfl) rfl) (wk_agg (.cons wk_id (.cons wk_id (.cons wk_nil (.cons wk_id (.cons wk_id (.cons wk_id .nil)))))))) (.cons (res_tmp rfl) .nil))
 refine WP.skip<|WP.seq<|rg 12 1024<|mv0 rfl rfl<|Dv.nilp rfl trivial rfl<|fb rfl trivial rfl fa274_1<|ld 1 rfl trivial rfl sc272 rfl rfl<|mv0 rfl rfl<|vg (mpo_opn 2 rfl) fun z481 h482=>?_
 refine Dv.mlv nilP rfl trivial rfl (mem_at 0 rfl) rfl Tryz.underlying272 (keyOk_str Tryz.underlying9) z276 (fun _=>rfl)<|gr H fun g483 H=>vg (mpo_foc h482 rfl g483 (pm 4 [1,0,2,3])) fun _ _=>?_
 refine Dv.nilA DNode.nn rfl trivial rfl (mem_at 0 rfl)<|vg (DNode.opn 0 rfl) fun g484 h485=>?_
 refine fp h485 rfl trivial rfl fa278_0<|lds 0 rfl trivial rfl sg107 rfl rfl<|el H fun t486 h487 H=>cl rfl cal155 rfl (dag_own.c h487)<|sx 3 rfl trivial rfl rfl cA sz107 rfl rfl rfl nofun ?_
 refine as0 rfl rfl<|.fin<|wg (DNode.shut (p:=((mget (zipK a0.fnodes z481) a1).getD nilP)) (m:=(mget a0.fnodes a1).getD default) g484 h485 (pm 5 [0,1,2,3,4])) fun _ _=>?_
 refine wg (mpo_unf0 h482 rfl g483 (pm 5 [0,1,2,3,4])) fun _ _=>?_
 refine wg (mpo_shut h482 rfl (pm 4 [1,0,2,3])) fun _ _=>?_
 cases H.out; exact rt i2 rfl () 3 [1,2,0] 1 (.cons (res_cells rfl Tryz.underlying107 rfl c107 (mem_at 1 rfl) rfl) (.cons (res_tmp rfl) .nil))
theorem view_View_Fits.c {a0:VView} {a1:ByteArray} {a2:ByteArray} {a3:ByteArray} {v0_0:OV} {b0_:Nat} {r:Int} (h:view_View_Fits.f a0 a1 a2 a3 = some r):Tr Tryz.prog 157 [eq (.pointer (some ⟨b0_,0,none⟩)),vS a1,vS a2,vS a3] [blk b0_ 150 [eq v0_0.1],mpo Value.string DDag.O v0_0.1 a0.fdags] (γ:=Unit) (fun _=>True) (fun g=>vI r) (fun g=>[blk b0_ 150 [eq v0_0.1],mpo Value.string DDag.O v0_0.1 a0.fdags]):=by
 unfold view_View_Fits.f at h
 refine tb Tryz.func157 Tryz.ntmps157 h fun R0 F H=>?_
 refine WP.seq<|rg 1 0<|as0 rfl rfl<|.fin<|WP.seq<|rg 5 4<|mv0 rfl rfl<|mv0 rfl rfl<|el H fun t488 h489 H=>cx 2 [0,1] cal92 (view_View_room.c h489 (b0_:=b0_) (v0_0:=v0_0)) nofun fun v490 _=>?_
 refine Dv.mkc (fst:=#[v490.1]) rfl trivial rfl<|as0 rfl rfl<|.fin<|WP.seq<|rg 9 192<|mv0 rfl rfl<|mv0 rfl rfl<|vg (DDag.opn 2 rfl) fun g491 h492=>?_
 refine el H fun t493 h494 H=>Dv.callc (fst:=#[v490.1]) (B:=[blk g491.1 274 [vS t488.froom,eq g491.2.1],mpo Value.string DNode.O g491.2.1 t488.fnodes]) (F:=[blk b0_ 150 [eq v0_0.1],mpl Value.string DDag.O v0_0.1 a0.fdags a1 v490]++F) rfl trivial rfl cal224 rfl (Tr.weak (dag_Dag_Event.c h494 (b0_:=g491.1) (v0_0:=g491.2)) (.cons (wk_ptr h492) (.cons wk_id .nil))) (perm_to (L:=[blk g491.1 274 [vS t488.froom,eq g491.2.1],mpo Value.string DNode.O g491.2.1 t488.fnodes,blk b0_ 150 [eq v0_0.1],mpl Value.string DDag.O v0_0.1 a0.fdags a1 v490]) (F:=F) [0,1,2,3] rfl rfl rfl)<|mv0 rfl rfl<|ex0 rfl trivial rfl rfl<|ex0 rfl trivial rfl rfl<|al rfl trivial zc107 nofun fun b495=>sx 0 rfl trivial rfl rfl cA sz107 rfl rfl rfl nofun ?_
 refine as0 rfl rfl<|.fin<|WP.seq<|WP.block<|WP.seq<|rg 3 0<|mv0 rfl rfl<|un0 rfl rfl (run_not _)<|as0 rfl rfl<|.fin<|cd H rfl (fun _ H=>?_) (fun _ H=>?_)
 ·
  refine WP.seq<|rg 1 0<|as0 rfl rfl<|.fin<|wg (DDag.shut (p:=v490) (m:=t488) (g491.1,g491.2) h492 (pm 5 [1,2,0,3,4])) fun _ _=>?_
  refine wg (mpl_back0 (view_View_room.r h489) (pm 4 [3,0,1,2])) fun _ _=>?_
  cases H.out; exact rt i2 rfl () 3 [1,2,0] 1 (.cons (res_tmp rfl) .nil)
 refine WP.seq<|WP.seq<|rg 3 0<|mv0 rfl rfl<|bn0 rfl rfl rfl run_seq<|as0 rfl rfl<|.fin<|cd H rfl (fun _ H=>?_) (fun _ H=>?_)
 ·
  refine WP.skip<|cd H rfl (fun _ H=>?_) (fun _ H=>?_)
  ·
   refine WP.seq<|rg 1 0<|as0 rfl rfl<|.fin<|wg (DDag.shut (p:=v490) (m:=t488) (g491.1,g491.2) h492 (pm 5 [1,2,0,3,4])) fun _ _=>?_
   refine wg (mpl_back0 (view_View_room.r h489) (pm 4 [3,0,1,2])) fun _ _=>?_
   cases H.out; exact rt i2 rfl () 3 [1,2,0] 1 (.cons (res_tmp rfl) .nil)
  refine WP.skip<|WP.seq<|rg 1 0<|as0 rfl rfl<|.fin<|wg (DDag.shut (p:=v490) (m:=t488) (g491.1,g491.2) h492 (pm 5 [1,2,0,3,4])) fun _ _=>?_
  refine wg (mpl_back0 (view_View_room.r h489) (pm 4 [3,0,1,2])) fun _ _=>?_
  cases H.out; exact rt i2 rfl () 3 [1,2,0] 1 (.cons (res_tmp rfl) .nil)
 refine WP.seq<|rg 8 0<|mv0 rfl rfl<|bn0 rfl rfl rfl run_seq<|mv0 rfl rfl ?_
 cases c499:decide (a3 = (⟨#[109,97,105,110]⟩:ByteArray))
 ·
  have H:=H.cf c499
  refine sk rfl rfl<|sk rfl rfl<|sk rfl rfl<|pf0 rfl rfl rfl<|as0 rfl rfl<|.fin<|WP.cond rfl nofun (fun _=>?_)
  refine WP.seq<|rg 4 0<|mv0 rfl rfl<|mv0 rfl rfl<|bn0 rfl rfl rfl run_seq<|as0 rfl rfl<|.fin<|cd H rfl (fun _ H=>?_) (fun _ H=>?_)
  ·
   refine WP.skip<|cd H rfl (fun _ H=>?_) (fun _ H=>?_)
   ·
    refine WP.seq<|rg 1 0<|as0 rfl rfl<|.fin<|wg (DDag.shut (p:=v490) (m:=t488) (g491.1,g491.2) h492 (pm 5 [1,2,0,3,4])) fun _ _=>?_
    refine wg (mpl_back0 (view_View_room.r h489) (pm 4 [3,0,1,2])) fun _ _=>?_
    cases H.out; exact rt i2 rfl () 3 [1,2,0] 1 (.cons (res_tmp rfl) .nil)
   refine WP.skip<|WP.seq<|rg 1 0<|as0 rfl rfl<|.fin<|wg (DDag.shut (p:=v490) (m:=t488) (g491.1,g491.2) h492 (pm 5 [1,2,0,3,4])) fun _ _=>?_
   refine wg (mpl_back0 (view_View_room.r h489) (pm 4 [3,0,1,2])) fun _ _=>?_
   cases H.out; exact rt i2 rfl () 3 [1,2,0] 1 (.cons (res_tmp rfl) .nil)
  refine rg 5 0<|mv0 rfl rfl<|fb rfl trivial rfl fa107_3<|ld 0 rfl trivial rfl sc9 rfl rfl<|bn0 rfl rfl rfl run_seq<|as0 rfl rfl<|.fin<|cd H rfl (fun _ H=>?_) (fun _ H=>?_)
  ·
   refine WP.seq<|rg 1 0<|as0 rfl rfl<|.fin<|wg (DDag.shut (p:=v490) (m:=t488) (g491.1,g491.2) h492 (pm 5 [1,2,0,3,4])) fun _ _=>?_
   refine wg (mpl_back0 (view_View_room.r h489) (pm 4 [3,0,1,2])) fun _ _=>?_
   cases H.out; exact rt i2 rfl () 3 [1,2,0] 1 (.cons (res_tmp rfl) .nil)
  refine WP.skip<|WP.seq<|rg 1 0<|as0 rfl rfl<|.fin<|wg (DDag.shut (p:=v490) (m:=t488) (g491.1,g491.2) h492 (pm 5 [1,2,0,3,4])) fun _ _=>?_
  refine wg (mpl_back0 (view_View_room.r h489) (pm 4 [3,0,1,2])) fun _ _=>?_
  cases H.out; exact rt i2 rfl () 3 [1,2,0] 1 (.cons (res_tmp rfl) .nil)
 have H:=H.ct c499
 refine fb rfl (gg rfl) rfl fa107_3<|ld 0 rfl (gg rfl) rfl sc9 rfl rfl<|bng rfl rfl rfl rfl run_seq<|pt0 rfl rfl rfl<|as0 rfl rfl<|.fin<|cd H rfl (fun _ H=>?_) (fun _ H=>?_)
 ·
  refine WP.skip<|cd H rfl (fun _ H=>?_) (fun _ H=>?_)
  ·
   refine WP.seq<|rg 1 0<|as0 rfl rfl<|.fin<|wg (DDag.shut (p:=v490) (m:=t488) (g491.1,g491.2) h492 (pm 5 [1,2,0,3,4])) fun _ _=>?_
   refine wg (mpl_back0 (view_View_room.r h489) (pm 4 [3,0,1,2])) fun _ _=>?_
   cases H.out; exact rt i2 rfl () 3 [1,2,0] 1 (.cons (res_tmp rfl) .nil)
  refine WP.skip<|WP.seq<|rg 1 0<|as0 rfl rfl<|.fin<|wg (DDag.shut (p:=v490) (m:=t488) (g491.1,g491.2) h492 (pm 5 [1,2,0,3,4])) fun _ _=>?_
  refine wg (mpl_back0 (view_View_room.r h489) (pm 4 [3,0,1,2])) fun _ _=>?_
  cases H.out; exact rt i2 rfl () 3 [1,2,0] 1 (.cons (res_tmp rfl) .nil)
 refine WP.seq<|rg 4 0<|mv0 rfl rfl<|mv0 rfl rfl<|bn0 rfl rfl rfl run_seq<|as0 rfl rfl<|.fin<|cd H rfl (fun _ H=>?_) (fun _ H=>?_)
 ·
  refine WP.skip<|cd H rfl (fun _ H=>?_) (fun _ H=>?_)
  ·
   refine WP.seq<|rg 1 0<|as0 rfl rfl<|.fin<|wg (DDag.shut (p:=v490) (m:=t488) (g491.1,g491.2) h492 (pm 5 [1,2,0,3,4])) fun _ _=>?_
   refine wg (mpl_back0 (view_View_room.r h489) (pm 4 [3,0,1,2])) fun _ _=>?_
   cases H.out; exact rt i2 rfl () 3 [1,2,0] 1 (.cons (res_tmp rfl) .nil)
  refine WP.skip<|WP.seq<|rg 1 0<|as0 rfl rfl<|.fin<|wg (DDag.shut (p:=v490) (m:=t488) (g491.1,g491.2) h492 (pm 5 [1,2,0,3,4])) fun _ _=>?_
  refine wg (mpl_back0 (view_View_room.r h489) (pm 4 [3,0,1,2])) fun _ _=>?_
  cases H.out; exact rt i2 rfl () 3 [1,2,0] 1 (.cons (res_tmp rfl) .nil)
 refine rg 5 0<|mv0 rfl rfl<|fb rfl trivial rfl fa107_3<|ld 0 rfl trivial rfl sc9 rfl rfl<|bn0 rfl rfl rfl run_seq<|as0 rfl rfl<|.fin<|cd H rfl (fun _ H=>?_) (fun _ H=>?_)
 ·
  refine WP.seq<|rg 1 0<|as0 rfl rfl<|.fin<|wg (DDag.shut (p:=v490) (m:=t488) (g491.1,g491.2) h492 (pm 5 [1,2,0,3,4])) fun _ _=>?_
  refine wg (mpl_back0 (view_View_room.r h489) (pm 4 [3,0,1,2])) fun _ _=>?_
  cases H.out; exact rt i2 rfl () 3 [1,2,0] 1 (.cons (res_tmp rfl) .nil)
 refine WP.skip<|WP.seq<|rg 1 0<|as0 rfl rfl<|.fin<|wg (DDag.shut (p:=v490) (m:=t488) (g491.1,g491.2) h492 (pm 5 [1,2,0,3,4])) fun _ _=>?_
 refine wg (mpl_back0 (view_View_room.r h489) (pm 4 [3,0,1,2])) fun _ _=>?_
 cases H.out; exact rt i2 rfl () 3 [1,2,0] 1 (.cons (res_tmp rfl) .nil)
theorem slices_Index_Edu.c {k:Nat} {a0:List Edu} {a1:Edu} {r:Int} (h:slices_Index_Edu.f k a0 a1 = some r):Pt Tryz.prog 275 [sl Edu.K a0,agg (Edu.enc a1)] (vI r):=by
 unfold slices_Index_Edu.f at h
 refine pb Tryz.func275 Tryz.ntmps275 h fun R0 F H=>?_
 refine WP.seq<|rg 2 1<|Dv.box rfl trivial rfl cA nofun fun b509=>as0 rfl rfl<|.fin<|WP.seqr H id (fun p510:Int×Bool=>[]) (fun p510:Int×Bool=>[blk b509 80 (Edu.enc a1)]++F) (fun p510 H=>?_) (fun H=>?_)
 ·
  refine WP.seq<|rg 1 0<|as0 rfl rfl<|.fin ?_
  cases H.out; exact r1 i2 rfl (.cons (res_tmp rfl) .nil)
 refine WP.seq<|rg 3 0<|mv0 rfl rfl<|Dv.lenl rfl trivial rfl Tryz.underlying40<|mv0 rfl rfl<|.fin<|WP.block<|wg (sg 1 [0] 0) fun _ _=>?_
 refine lp (fun j_ (p516:Int)=>slices_Index_Edu.l0 k a0 a1 j_ p516) 0 H (fun p516=>[(0,sl Edu.K a0),(3,eq (.pointer (some ⟨b509,0,none⟩))),(7,vI (a0.length:Int)),(8,vI p516)]) (fun p516=>[blk b509 80 (Edu.enc a1)]++F) ?_
 rintro j_ x511 H
 rcases j_ with _ | j515
 ·
  exact (Gets.no H).elim
 try dsimp only at H
 rw [slices_Index_Edu.l0] at H
 refine WP.seq<|rg 1 0<|bn0 rfl rfl rfl run_lt<|.fin<|WP.seq<|cd H rfl (fun _ H=>?_) (fun _ H=>?_)
 rotate_left
 ·
  refine WP.exit ?_
  have H:=H.out
  exact jn (x511,decide (x511 < (a0.length:Int))) H
 refine WP.skip<|WP.seq<|WP.block<|WP.seq<|rg 2 0<|mv0 rfl rfl<|as0 rfl rfl<|.fin<|WP.seq<|dg Tryz.checked.mixed 6 0<|lds 0 rfl trivial rfl sg80 rfl rfl<|mv0 rfl rfl<|mv0 rfl rfl<|gr H fun g513 H=>Dv.ixr rfl trivial rfl rfl Tryz.underlying40 Tryz.underlying80 c80 g513.1 g513.2<|ldsR rfl trivial rfl sg80 rfl<|Dv.eqs [.int .i64 a1.fKind,.string a1.fRoom,.string a1.fUser,.string a1.fEvent,.string a1.fThread,.bool a1.fPrivate,.bool a1.fOn,.int .i64 a1.fSpan,.int .i64 a1.fState,.int .i64 a1.fTick,.int .i64 a1.fStamp] [.int .i64 ((Edu.K.at a0 x511).fKind),.string ((Edu.K.at a0 x511).fRoom),.string ((Edu.K.at a0 x511).fUser),.string ((Edu.K.at a0 x511).fEvent),.string ((Edu.K.at a0 x511).fThread),.bool ((Edu.K.at a0 x511).fPrivate),.bool ((Edu.K.at a0 x511).fOn),.int .i64 ((Edu.K.at a0 x511).fSpan),.int .i64 ((Edu.K.at a0 x511).fState),.int .i64 ((Edu.K.at a0 x511).fTick),.int .i64 ((Edu.K.at a0 x511).fStamp)] rfl trivial rfl rfl rfl rfl eg80 (fun _=>equal_of 2 (by decide) (fun _=>eqt80 a1 (Edu.K.at a0 x511)))<|.fin<|cd H rfl (fun _ H=>?_) (fun _ H=>?_)
 rotate_left
 ·
  exact WP.skip<|rg 2 0<|bn0 rfl rfl rfl run_add<|mv0 rfl rfl<|.fin<|bk j515 (w64 (x511 + 1)) H
 refine WP.seq<|rg 2 0<|mv0 rfl rfl<|as0 rfl rfl<|.fin ?_
 have H:=H.outr
 cases H.out; exact r1 i2 rfl (.cons (res_tmp rfl) .nil)
theorem slices_Contains_Edu.c {k:Nat} {a0:List Edu} {a1:Edu} {r:Bool} (h:slices_Contains_Edu.f k a0 a1 = some r):Pt Tryz.prog 225 [sl Edu.K a0,agg (Edu.enc a1)] (vB r):=by
 unfold slices_Contains_Edu.f at h
 refine pb Tryz.func225 Tryz.ntmps225 h fun R0 F H=>?_
 refine WP.seq<|rg 2 1<|Dv.box rfl trivial rfl cA nofun fun b517=>as0 rfl rfl<|.fin<|WP.seq<|rg 5 0<|mv0 rfl rfl<|lds 0 rfl trivial rfl sg80 rfl rfl<|el H fun t518 h519 H=>cl rfl cal275 rfl (slices_Index_Edu.c h519)<|bn0 rfl rfl rfl run_ge<|as0 rfl rfl<|.fin ?_
 cases H.out; exact r1 i2 rfl (.cons (res_tmp rfl) .nil)
theorem slices_Delete_Edu.c {a0:List Edu} {a1 a2:Int} {p0_:OV} {r:List Edu} (h:slices_Delete_Edu.f a0 a1 a2 = some r):Tr Tryz.prog 226 [eq p0_.1,vI a1,vI a2] [own Edu.K p0_.1 a0] (γ:=OV) (fun _=>True) (fun g=>eq g.1) (fun g=>[own Edu.K g.1 r]):=by
  unfold slices_Delete_Edu.f at h
  obtain ⟨⟨h1,h2,h3⟩,h5⟩:=(Gets.of h).grd
  obtain rfl:=Gets.out h5
  clear h h5
  obtain ⟨i,rfl⟩:=Int.eq_ofNat_of_zero_le h1
  obtain ⟨j,rfl⟩:=Int.eq_ofNat_of_zero_le (show (0:Int)≤a2 by omega)
  have hij:i≤j:=by omega
  have hj:j≤a0.length:=by omega
  obtain ⟨v,hv⟩:=p0_
  rw [Int.toNat_natCast,Int.toNat_natCast]
  refine Tr.body Tryz.func226 (c:=_) rfl Tryz.ntmps226 (Nat.le_of_ble_eq_true rfl) fun R0 F=>?_
  refine WP.seq<|rg 1 0<|as0 rfl rfl<|.fin<|WP.seq<|rg 6 0<|mv0 rfl rfl<|mv0 rfl rfl<|mv0 rfl rfl<|mv0 rfl rfl<|Dv.lenw (Kd:=Edu.K) (xs:=a0) (v:=v) rfl trivial rfl (mem_at 0 rfl) Tryz.underlying40<|Dv.sl3 (Kd:=Edu.K) rfl trivial rfl (mem_at 0 rfl) Tryz.underlying40 Tryz.underlying80 c80 (bdE_nat rfl) (bdE_nat rfl) (bdE_nat rfl) hij hj<|.fin<|WP.seq<|WP.seq<|rg 3 0<|mv0 rfl rfl<|mv0 rfl rfl<|bn0 rfl rfl rfl run_eq<|.fin<|WP.cond rfl (fun c0=>?_) (fun c0=>?_)
  · have e1:i = j:=by have:=beq_iff_eq.1 c0; omega
    subst e1
    rw [List.take_append_drop]
    refine WP.seq<|rg 2 0<|mv0 rfl rfl<|as0 rfl rfl<|.fin ?_
    exact WP.retL (fun _ _ h=>h) rfl (⟨v,hv⟩:OV) trivial (.cons (res_tmp rfl) .nil) rfl (st_sel (L:=[own Edu.K v a0]) (F:=F) [0] 0 rfl rfl rfl)
  have hlt:i < j:=by
    have:¬ ((i:Int) = (j:Int)):=by simpa using c0
    omega
  have hzl:(a0.take i++a0.drop j++a0.drop (i + (a0.length - j))).length = a0.length:=by simp only [List.length_append,List.length_take,List.length_drop]; omega
  have hpl:(i + (a0.length - j)) < (a0.take i++a0.drop j++a0.drop (i + (a0.length - j))).length:=by rw [hzl]; omega
  have hfin:((a0.take i++a0.drop j++a0.drop (i + (a0.length - j))).take (i + (a0.length - j))++List.replicate ((a0.take i++a0.drop j++a0.drop (i + (a0.length - j))).length - (i + (a0.length - j))) (⟨0,(⟨#[]⟩:ByteArray),(⟨#[]⟩:ByteArray),(⟨#[]⟩:ByteArray),(⟨#[]⟩:ByteArray),false,false,0,0,0,0⟩:Edu)).take (i + (a0.length - j)) = a0.take i++a0.drop j:=by
    have hl:(a0.take i++a0.drop j).length = (i + (a0.length - j)):=by rw [List.length_append,List.length_take,List.length_drop]; omega
    rw [List.take_append,List.take_take,Nat.min_self,List.take_left' hl]
    have:(i + (a0.length - j)) - (a0.take i++a0.drop j).length = 0:=by omega
    rw [this,List.take_zero,List.append_nil]
  refine WP.skip<|WP.seq<|rg 3 0<|mv0 rfl rfl<|Dv.lenw (Kd:=Edu.K) (xs:=a0) (v:=v) rfl trivial rfl (mem_at 0 rfl) Tryz.underlying40<|as0 rfl rfl<|.fin<|WP.seq<|dg Tryz.checked.mixed 8 64<|mv0 rfl rfl<|mv0 rfl rfl<|Dv.slpf (Kd:=Edu.K) rfl trivial rfl (mem_at 0 rfl) Tryz.underlying40 Tryz.underlying80 c80 (bdE_nat rfl) (Nat.le_trans hij hj)<|mv0 rfl rfl<|mv0 rfl rfl<|Dv.slt (Kd:=Edu.K) (p:=j) rfl trivial rfl (mem_at 0 rfl) Tryz.underlying40 Tryz.underlying80 c80 (bdE_nat rfl) hj<|Dv.apt (Kd:=Edu.K) (jj:=0) rfl trivial rfl rfl rfl Tryz.underlying40 Tryz.underlying40 Tryz.underlying80 c80 ⟨hlt,hj⟩ (fun _=>pend_bits (by kernel_rfl))<|as0 rfl rfl<|.fin ?_
  refine WP.seq<|rg 6 32<|mv0 rfl rfl<|mv0 rfl rfl<|Dv.lenp (Kd:=Edu.K) (xs:=(a0.take i++a0.drop j++a0.drop (i + (a0.length - j)))) rfl trivial rfl (mem_at 0 rfl) Tryz.underlying40<|mv0 rfl rfl<|Dv.slpt (Kd:=Edu.K) (xs:=(a0.take i++a0.drop j++a0.drop (i + (a0.length - j)))) (p:=(i + (a0.length - j))) (q:=a0.length) rfl trivial rfl (mem_at 0 rfl) Tryz.underlying40 Tryz.underlying80 c80 (bdE_nat rfl) (bdE_nat rfl) (by omega) (Nat.le_of_eq hzl.symm)<|Dv.clrt (Kd:=Edu.K) (jj:=0) (⟨0,(⟨#[]⟩:ByteArray),(⟨#[]⟩:ByteArray),(⟨#[]⟩:ByteArray),(⟨#[]⟩:ByteArray),false,false,0,0,0,0⟩:Edu) rfl trivial ((show opv _ _ = some (eq (tlv _ v a0.length (i + (a0.length - j)))) from rfl).trans (congrArg (fun z=>some (eq (tlv _ v z (i + (a0.length - j))))) hzl.symm)) Tryz.underlying40 z80 rfl rfl (fun u hu=>List.all_eq_true.1 (show (Value.cells _).toList.all (fun u=>u.oneCell') = true by kernel_rfl) u hu) hpl rfl nofun<|.fin<|WP.seq<|rg 2 0<|mv0 rfl rfl<|as0 rfl rfl<|.fin ?_
  refine WP.gh (l':=fun _:Unit=>[own Edu.K (pfv v (i + (a0.length - j))) (a0.take i++a0.drop j)]++F) (gh_of (ok:=fun _=>True) (fun R w h=>by obtain ⟨_,_,h2⟩:=st_cut (m:=(i + (a0.length - j))) 0 rfl (by rw [List.length_append,List.length_take,List.length_replicate]; omega) R w h; rw [hfin] at h2; exact ⟨(),trivial,h2⟩)) (fun _ _=>?_)
  exact WP.retL (fun _ _ h=>h) rfl (⟨pfv v (i + (a0.length - j)),pfv_one hv⟩:OV) trivial (.cons (res_tmp rfl) .nil) rfl (st_sel (L:=[own Edu.K (pfv v (i + (a0.length - j))) (a0.take i++a0.drop j)]) (F:=F) [0] 0 rfl rfl rfl)
theorem park_Park_Put.c {k:Nat} {a0:Park} {a1:Edu} {p0_:OV} {r:Edu×Bool×Park} (h:park_Park_Put.f k a0 a1 = some r):Tr Tryz.prog 158 [eq p0_.1,agg (Edu.enc a1)] [Park.O p0_ a0] (γ:=Unit) (fun _=>True) (fun g=>tup [agg (Edu.enc r.1),vB r.2.1]) (fun g=>[Park.O p0_ r.2.2]):=by
 unfold park_Park_Put.f at h
 refine tb Tryz.func158 Tryz.ntmps158 h fun R0 F H=>?_
 refine WP.seq<|rg 3 3<|Dv.box rfl trivial rfl cA nofun fun b520=>al rfl trivial zc80 nofun fun b521=>as0 rfl rfl<|.fin<|WP.seq<|WP.seq<|wg (Park.opn 2 rfl) fun g522 h523=>?_
 refine dg Tryz.checked.mixed 6 0<|mv0 rfl rfl<|Dv.nilpp h523 rfl trivial rfl<|fp h523 rfl trivial rfl fa200_1<|ld 0 rfl trivial rfl sc40 rfl rfl<|lds 3 rfl trivial rfl sg80 rfl rfl<|el H fun t524 h525 H=>cll (B:=[own Edu.K g522.2.1 a0.fl]) 4 [1,0,2,3] cal225 (Pt.lend _ (slices_Contains_Edu.c h525) (.cons (lt_own (mem_at 0 rfl)) (.cons lt_id .nil)) flat_eq) ?_
 refine .fin<|cd H rfl (fun _ H=>?_) (fun _ H=>?_)
 ·
  refine WP.seq<|rg 3 2<|Dv.bld (qs:=[vI 0,vS (⟨#[]⟩:ByteArray),vS (⟨#[]⟩:ByteArray),vS (⟨#[]⟩:ByteArray),vS (⟨#[]⟩:ByteArray),vB false,vB false,vI 0,vI 0,vI 0,vI 0]) (css:=[]) rfl trivial Tryz.underlying80 pl80 z80 rfl trivial rfl rfl<|sx 2 rfl trivial rfl rfl cA sz80 rfl rfl rfl nofun ?_
  refine as0 rfl rfl<|.fin<|wg (Park.shut (p:=p0_) (m:=a0) (g522.1,g522.2) h523 (pm 4 [0,1,2,3])) fun _ _=>?_
  cases H.out; exact rt i2 rfl () 3 [1,2,0] 2 (.cons (res_cells rfl Tryz.underlying80 rfl c80 (mem_at 1 rfl) rfl) (.cons (res_tmp rfl) .nil))
 refine WP.skip<|WP.seq<|dg Tryz.checked.mixed 11 1152<|mv0 rfl rfl<|mv0 rfl rfl<|Dv.nilpp h523 rfl trivial rfl<|fp h523 rfl trivial rfl fa200_1<|ld 0 rfl trivial rfl sc40 rfl rfl<|lds 3 rfl trivial rfl sg80 rfl rfl<|Dv.lit Edu.K ([a1]:List Edu) (css:=[Edu.enc a1]) rfl trivial Tryz.underlying40 Tryz.underlying80 c80 z80 rfl (by decide) (by decide) rfl ⟨(cells_agg (Edu.K.one _)),trivial⟩ rfl rfl rfl<|gr H fun g527 H=>Dv.appx (Kd:=Edu.K) (jj:=1) (ys:=([a1]:List Edu)) (fun v528:OV=>[blk g522.1 200 [vI a0.fmost,eq g522.2.1,vI a0.flost],own Edu.K v528.1 (a0.fl++([a1]:List Edu)),blk b521 80 [vI 0,vS (⟨#[]⟩:ByteArray),vS (⟨#[]⟩:ByteArray),vS (⟨#[]⟩:ByteArray),vS (⟨#[]⟩:ByteArray),vB false,vB false,vI 0,vI 0,vI 0,vI 0],blk b520 80 (Edu.enc a1)]++F) rfl trivial rfl rfl rfl src_sl Tryz.underlying40 (.inr ⟨_,Tryz.underlying40⟩) inf80 rfl (by decide) g527 rfl (fun _=>(pend_by (by kernel_rfl) (pend_by (by kernel_rfl) (pend_by (by kernel_rfl) (pend_by (by kernel_rfl) (pend_by (by kernel_rfl) (pend_by (by kernel_rfl) (pend_in (fun _=>trivial) pend_nil)))))))) (fun v528=>?_)
 refine Dv.nilpp h523 rfl trivial rfl<|fp h523 rfl trivial rfl fa200_1<|sx 0 rfl trivial rfl rfl (cells_one one_ov) sz40 rfl rfl rfl pB ?_
 refine .fin<|WP.seq<|WP.seq<|dg Tryz.checked.mixed 10 0<|mv0 rfl rfl<|Dv.nilpp h523 rfl trivial rfl<|fp h523 rfl trivial rfl fa200_1<|ld 0 rfl trivial rfl sc40 rfl rfl<|Dv.lenw rfl trivial rfl (mem_at 1 rfl) Tryz.underlying40<|mv0 rfl rfl<|Dv.nilpp h523 rfl trivial rfl<|fp h523 rfl trivial rfl fa200_0<|ld 0 rfl trivial rfl sc3 rfl rfl<|bn0 rfl rfl rfl run_le<|.fin<|cd H rfl (fun _ H=>?_) (fun _ H=>?_)
 ·
  refine WP.seq<|rg 3 2<|Dv.bld (qs:=[vI 0,vS (⟨#[]⟩:ByteArray),vS (⟨#[]⟩:ByteArray),vS (⟨#[]⟩:ByteArray),vS (⟨#[]⟩:ByteArray),vB false,vB false,vI 0,vI 0,vI 0,vI 0]) (css:=[]) rfl trivial Tryz.underlying80 pl80 z80 rfl trivial rfl rfl<|sx 2 rfl trivial rfl rfl cA sz80 rfl rfl rfl nofun ?_
  refine as0 rfl rfl<|.fin<|wg (Park.shut (p:=p0_) (m:=(⟨a0.fmost,a0.fl++([a1]:List Edu),a0.flost⟩:Park)) (g522.1,v528) h523 (pm 4 [0,1,2,3])) fun _ _=>?_
  cases H.out; exact rt i2 rfl () 3 [1,2,0] 2 (.cons (res_cells rfl Tryz.underlying80 rfl c80 (mem_at 1 rfl) rfl) (.cons (res_tmp rfl) .nil))
 refine WP.skip<|WP.seq<|rg 8 192<|mv0 rfl rfl<|Dv.nilpp h523 rfl trivial rfl<|fp h523 rfl trivial rfl fa200_1<|ld 0 rfl trivial rfl sc40 rfl rfl<|gr H fun g530 H=>?_
 have h531:(0:Int).toNat < (a0.fl++([a1]:List Edu)).length:=idx_lt g530
 refine Dv.ixw rfl trivial rfl (mem_at 1 rfl) rfl Tryz.underlying40 Tryz.underlying80 c80 g530.1 g530.2<|Dv.ldws (j:=((0:Int).toNat)) (f:=0) rfl trivial rfl (mem_at 1 rfl) h531 Tryz.underlying80 rfl c80 (Nat.le_of_ble_eq_true rfl)<|al rfl trivial zc80 nofun fun b532=>sx 0 rfl trivial rfl rfl cA sz80 rfl rfl rfl nofun ?_
 refine .fin<|WP.seq<|rg 9 288<|mv0 rfl rfl<|mv0 rfl rfl<|Dv.nilpp h523 rfl trivial rfl<|fp h523 rfl trivial rfl fa200_1<|ld 1 rfl trivial rfl sc40 rfl rfl<|el H fun t533 h534 H=>cx 5 [2,0,1,3,4] cal226 (slices_Delete_Edu.c h534 (p0_:=v528)) nofun fun g535 _=>?_
 refine Dv.nilpp h523 rfl trivial rfl<|fp h523 rfl trivial rfl fa200_1<|sx 2 rfl trivial rfl rfl (cells_one one_ov) sz40 rfl rfl rfl nofun ?_
 refine .fin<|WP.seq<|rg 8 128<|mv0 rfl rfl<|Dv.nilpp h523 rfl trivial rfl<|fp h523 rfl trivial rfl fa200_2<|ld 2 rfl trivial rfl sc3 rfl rfl<|bn0 rfl rfl rfl run_add<|Dv.nilpp h523 rfl trivial rfl<|fp h523 rfl trivial rfl fa200_2<|sx 2 rfl trivial rfl rfl cE sz3 rfl rfl rfl nofun ?_
 refine .fin<|WP.seq<|rg 3 2<|lds 1 rfl trivial rfl sg80 rfl rfl<|sx 3 rfl trivial rfl rfl cA sz80 rfl rfl rfl nofun ?_
 refine as0 rfl rfl<|.fin<|wg (Park.shut (p:=p0_) (m:=(⟨a0.fmost,t533,w64 (a0.flost + 1)⟩:Park)) (g522.1,g535) h523 (pm 5 [2,0,1,3,4])) fun _ _=>?_
 cases H.out; exact rt i2 rfl () 4 [1,2,3,0] 3 (.cons (res_cells rfl Tryz.underlying80 rfl c80 (mem_at 2 rfl) rfl) (.cons (res_tmp rfl) .nil))
theorem cmp_Or_int.c {k:Nat} {a0:List Int} {r:Int} (h:cmp_Or_int.f k a0 = some r):Pt Tryz.prog 195 [sl (intK .i64) a0] (vI r):=by
 unfold cmp_Or_int.f at h
 refine pb Tryz.func195 Tryz.ntmps195 h fun R0 F H=>?_
 refine WP.seq<|rg 1 0<|as0 rfl rfl<|.fin<|WP.seq<|rg 1 0<|as0 rfl rfl<|.fin<|WP.seqr H id (fun p536:Int×Bool=>[(3,vI 0)]) (fun p536:Int×Bool=>F) (fun p536 H=>?_) (fun H=>?_)
 ·
  refine WP.seq<|rg 2 0<|mv0 rfl rfl<|as0 rfl rfl<|.fin ?_
  cases H.out; exact r0 i2 rfl (.cons (res_tmp rfl) .nil)
 refine WP.seq<|rg 3 0<|mv0 rfl rfl<|Dv.lenl rfl trivial rfl Tryz.underlying24<|mv0 rfl rfl<|.fin<|WP.block<|wg (sg 0 [] 0) fun _ _=>?_
 refine lp (fun j_ (p542:Int)=>cmp_Or_int.l0 k a0 j_ p542) 0 H (fun p542=>[(3,vI 0),(6,sl (intK .i64) a0),(7,vI (a0.length:Int)),(8,vI p542)]) (fun p542=>F) ?_
 rintro j_ x537 H
 rcases j_ with _ | j541
 ·
  exact (Gets.no H).elim
 try dsimp only at H
 rw [cmp_Or_int.l0] at H
 refine WP.seq<|rg 1 0<|bn0 rfl rfl rfl run_lt<|.fin<|WP.seq<|cd H rfl (fun _ H=>?_) (fun _ H=>?_)
 rotate_left
 ·
  refine WP.exit ?_
  have H:=H.out
  exact jn (x537,decide (x537 < (a0.length:Int))) H
 refine WP.skip<|WP.seq<|WP.block<|WP.seq<|rg 3 0<|gr H fun g539 H=>Dv.ixr rfl trivial rfl rfl Tryz.underlying24 Tryz.underlying3 c3 g539.1 g539.2<|ldR rfl trivial rfl sc3 rfl<|as0 rfl rfl<|.fin<|WP.seq<|rg 3 0<|mv0 rfl rfl<|mv0 rfl rfl<|bn0 rfl rfl rfl run_ne<|.fin<|cd H rfl (fun _ H=>?_) (fun _ H=>?_)
 rotate_left
 ·
  exact WP.skip<|rg 2 0<|bn0 rfl rfl rfl run_add<|mv0 rfl rfl<|.fin<|bk j541 (w64 (x537 + 1)) H
 refine WP.seq<|rg 2 0<|mv0 rfl rfl<|as0 rfl rfl<|.fin ?_
 have H:=H.outr
 cases H.out; exact r0 i2 rfl (.cons (res_tmp rfl) .nil)
theorem cmp_isNaN_string.c {a0:ByteArray} {r:Bool} (h:cmp_isNaN_string.f a0 = some r):Pt Tryz.prog 235 [vS a0] (vB r):=by
 unfold cmp_isNaN_string.f at h
 refine pb Tryz.func235 Tryz.ntmps235 h fun R0 F H=>?_
 refine WP.seq<|rg 1 0<|as0 rfl rfl<|.fin<|WP.seq<|rg 4 0<|mv0 rfl rfl<|mv0 rfl rfl<|bn0 rfl rfl rfl run_sne<|as0 rfl rfl<|.fin ?_
 cases H.out; exact r0 i2 rfl (.cons (res_tmp rfl) .nil)
theorem cmp_Compare_string.c {a0:ByteArray} {a1:ByteArray} {r:Int} (h:cmp_Compare_string.f a0 a1 = some r):Pt Tryz.prog 196 [vS a0,vS a1] (vI r):=by
 unfold cmp_Compare_string.f at h
 refine pb Tryz.func196 Tryz.ntmps196 h fun R0 F H=>?_
 refine WP.seq<|rg 1 0<|as0 rfl rfl<|.fin<|WP.seq<|rg 3 0<|mv0 rfl rfl<|el H fun t543 h544 H=>cl rfl cal235 rfl (cmp_isNaN_string.c h544)<|as0 rfl rfl<|.fin<|WP.seq<|rg 3 0<|mv0 rfl rfl<|el H fun t545 h546 H=>cl rfl cal235 rfl (cmp_isNaN_string.c h546)<|as0 rfl rfl<|.fin<|WP.seq<|WP.seq<|rg 1 0<|mv0 rfl rfl<|.fin<|cd H rfl (fun _ H=>?_) (fun _ H=>?_)
 ·
  refine WP.seq<|WP.seq<|rg 1 0<|mv0 rfl rfl<|.fin<|cd H rfl (fun _ H=>?_) (fun _ H=>?_)
  ·
   refine WP.seq<|rg 1 0<|as0 rfl rfl<|.fin ?_
   cases H.out; exact r0 i2 rfl (.cons (res_tmp rfl) .nil)
  refine WP.skip<|WP.seq<|rg 1 0<|as0 rfl rfl<|.fin ?_
  cases H.out; exact r0 i2 rfl (.cons (res_tmp rfl) .nil)
 refine WP.skip<|WP.seq<|WP.seq<|rg 1 0<|mv0 rfl rfl<|.fin<|cd H rfl (fun _ H=>?_) (fun _ H=>?_)
 ·
  refine WP.seq<|rg 1 0<|as0 rfl rfl<|.fin ?_
  cases H.out; exact r0 i2 rfl (.cons (res_tmp rfl) .nil)
 refine WP.skip<|WP.seq<|WP.seq<|rg 3 0<|mv0 rfl rfl<|mv0 rfl rfl<|bn0 rfl rfl rfl run_slt<|.fin<|cd H rfl (fun _ H=>?_) (fun _ H=>?_)
 ·
  refine WP.seq<|rg 1 0<|as0 rfl rfl<|.fin ?_
  cases H.out; exact r0 i2 rfl (.cons (res_tmp rfl) .nil)
 refine WP.skip<|WP.seq<|WP.seq<|rg 3 0<|mv0 rfl rfl<|mv0 rfl rfl<|bn0 rfl rfl rfl run_sgt<|.fin<|cd H rfl (fun _ H=>?_) (fun _ H=>?_)
 ·
  refine WP.seq<|rg 1 0<|as0 rfl rfl<|.fin ?_
  cases H.out; exact r0 i2 rfl (.cons (res_tmp rfl) .nil)
 refine WP.skip<|WP.seq<|rg 1 0<|as0 rfl rfl<|.fin ?_
 cases H.out; exact r0 i2 rfl (.cons (res_tmp rfl) .nil)
theorem cmp_isNaN_int.c {a0:Int} {r:Bool} (h:cmp_isNaN_int.f a0 = some r):Pt Tryz.prog 249 [vI a0] (vB r):=by
 unfold cmp_isNaN_int.f at h
 refine pb Tryz.func249 Tryz.ntmps249 h fun R0 F H=>?_
 refine WP.seq<|rg 1 0<|as0 rfl rfl<|.fin<|WP.seq<|rg 4 0<|mv0 rfl rfl<|mv0 rfl rfl<|bn0 rfl rfl rfl run_ne<|as0 rfl rfl<|.fin ?_
 cases H.out; exact r0 i2 rfl (.cons (res_tmp rfl) .nil)
theorem cmp_Compare_int.c {a0:Int} {a1:Int} {r:Int} (h:cmp_Compare_int.f a0 a1 = some r):Pt Tryz.prog 197 [vI a0,vI a1] (vI r):=by
 unfold cmp_Compare_int.f at h
 refine pb Tryz.func197 Tryz.ntmps197 h fun R0 F H=>?_
 refine WP.seq<|rg 1 0<|as0 rfl rfl<|.fin<|WP.seq<|rg 3 0<|mv0 rfl rfl<|el H fun t552 h553 H=>cl rfl cal249 rfl (cmp_isNaN_int.c h553)<|as0 rfl rfl<|.fin<|WP.seq<|rg 3 0<|mv0 rfl rfl<|el H fun t554 h555 H=>cl rfl cal249 rfl (cmp_isNaN_int.c h555)<|as0 rfl rfl<|.fin<|WP.seq<|WP.seq<|rg 1 0<|mv0 rfl rfl<|.fin<|cd H rfl (fun _ H=>?_) (fun _ H=>?_)
 ·
  refine WP.seq<|WP.seq<|rg 1 0<|mv0 rfl rfl<|.fin<|cd H rfl (fun _ H=>?_) (fun _ H=>?_)
  ·
   refine WP.seq<|rg 1 0<|as0 rfl rfl<|.fin ?_
   cases H.out; exact r0 i2 rfl (.cons (res_tmp rfl) .nil)
  refine WP.skip<|WP.seq<|rg 1 0<|as0 rfl rfl<|.fin ?_
  cases H.out; exact r0 i2 rfl (.cons (res_tmp rfl) .nil)
 refine WP.skip<|WP.seq<|WP.seq<|rg 1 0<|mv0 rfl rfl<|.fin<|cd H rfl (fun _ H=>?_) (fun _ H=>?_)
 ·
  refine WP.seq<|rg 1 0<|as0 rfl rfl<|.fin ?_
  cases H.out; exact r0 i2 rfl (.cons (res_tmp rfl) .nil)
 refine WP.skip<|WP.seq<|WP.seq<|rg 3 0<|mv0 rfl rfl<|mv0 rfl rfl<|bn0 rfl rfl rfl run_lt<|.fin<|cd H rfl (fun _ H=>?_) (fun _ H=>?_)
 ·
  refine WP.seq<|rg 1 0<|as0 rfl rfl<|.fin ?_
  cases H.out; exact r0 i2 rfl (.cons (res_tmp rfl) .nil)
 refine WP.skip<|WP.seq<|WP.seq<|rg 3 0<|mv0 rfl rfl<|mv0 rfl rfl<|bn0 rfl rfl rfl run_gt<|.fin<|cd H rfl (fun _ H=>?_) (fun _ H=>?_)
 ·
  refine WP.seq<|rg 1 0<|as0 rfl rfl<|.fin ?_
  cases H.out; exact r0 i2 rfl (.cons (res_tmp rfl) .nil)
 refine WP.skip<|WP.seq<|rg 1 0<|as0 rfl rfl<|.fin ?_
 cases H.out; exact r0 i2 rfl (.cons (res_tmp rfl) .nil)
theorem dag_Compare.c {k:Nat} {a0:Pos} {a1:Pos} {r:Int} (h:dag_Compare.f k a0 a1 = some r):Pt Tryz.prog 227 [agg (Pos.enc a0),agg (Pos.enc a1)] (vI r):=by
 unfold dag_Compare.f at h
 refine pb Tryz.func227 Tryz.ntmps227 h fun R0 F H=>?_
 refine WP.seq<|rg 3 3<|Dv.box rfl trivial rfl cA nofun fun b561=>Dv.box rfl trivial rfl cA nofun fun b562=>as0 rfl rfl<|.fin<|WP.seq<|dg Tryz.checked.mixed 13 0<|fb rfl trivial rfl fa49_0<|ld 1 rfl trivial rfl sc3 rfl rfl<|fb rfl trivial rfl fa49_0<|ld 0 rfl trivial rfl sc3 rfl rfl<|el H fun t563 h564 H=>cl rfl cal197 rfl (cmp_Compare_int.c h564)<|fb rfl trivial rfl fa49_1<|ld 1 rfl trivial rfl sc9 rfl rfl<|fb rfl trivial rfl fa49_1<|ld 0 rfl trivial rfl sc9 rfl rfl<|el H fun t565 h566 H=>cl rfl cal196 rfl (cmp_Compare_string.c h566)<|Dv.lit (intK .i64) ([t563,t565]:List Int) (css:=[[vI t563],[vI t565]]) rfl trivial Tryz.underlying24 Tryz.underlying3 c3 z3 rfl (by decide) (by decide) rfl ⟨(cells_one (one_eq rfl)),⟨(cells_one (one_eq rfl)),trivial⟩⟩ rfl rfl rfl<|el H fun t567 h568 H=>cl rfl cal195 rfl (cmp_Or_int.c h568)<|as0 rfl rfl<|.fin ?_
 cases H.out; exact r2 i2 rfl (.cons (res_tmp rfl) .nil)
theorem receipt_Table_Put.c {k:Nat} {a0:RTab} {a1:RKey} {a2:Pos} {p0_:OV} {r:Bool×RTab} (h:receipt_Table_Put.f k a0 a1 a2 = some r):Tr Tryz.prog 159 [eq p0_.1,agg (RKey.enc a1),agg (Pos.enc a2)] [RTab.O p0_ a0] (γ:=Unit) (fun _=>True) (fun g=>vB r.1) (fun g=>[RTab.O p0_ r.2]):=by
 unfold receipt_Table_Put.f at h
 refine tb Tryz.func159 Tryz.ntmps159 h fun R0 F H=>?_
 refine WP.seq<|rg 3 3<|Dv.box rfl trivial rfl cA nofun fun b569=>Dv.box rfl trivial rfl cA nofun fun b570=>as0 rfl rfl<|.fin<|WP.seq<|wg (RTab.opn 2 rfl) fun g571 h572=>?_
 refine dg Tryz.checked.mixed 12 1536<|mv0 rfl rfl<|Dv.nilpp h572 rfl trivial rfl<|fp h572 rfl trivial rfl fa203_0<|ld 0 rfl trivial rfl sc201 rfl rfl<|lds 3 rfl trivial rfl sg47 rfl rfl<|Dv.mlkq (⟨0,(⟨#[]⟩:ByteArray)⟩:Pos) rfl trivial rfl (mem_at 1 rfl) rfl (RKey.kq a1) Tryz.underlying201 kok47 z49 (fun _=>⟨_,rfl,Cs.eqz rfl⟩)<|mv0 rfl rfl<|ex0 rfl trivial rfl rfl<|ex0 rfl trivial rfl rfl<|al rfl trivial zc49 (fun _=>(pend_in (fun _=>trivial) (pend_in (fun _=>trivial) (pend_in (fun _=>trivial) (pend_in (fun _=>(mem_at 2 rfl)) (pend_in (fun _=>(mem_at 4 rfl)) (pend_in (fun _=>(mem_at 1 rfl)) (pend_in (fun _=>trivial) (pend_in (fun _=>trivial) (pend_in (fun _=>trivial) pend_nil)))))))))) fun b573=>sx 0 rfl trivial rfl rfl cA sz49 rfl rfl rfl (fun _=>(pend_in (fun _=>trivial) (pend_by (by kernel_rfl) (pend_by (by kernel_rfl) (pend_by (by kernel_rfl) (pend_by (by kernel_rfl) (pend_by (by kernel_rfl) (pend_by (by kernel_rfl) (pend_by (by kernel_rfl) (pend_by (by kernel_rfl) pend_nil)))))))))) ?_
 refine as0 rfl rfl<|.fin<|WP.seq<|WP.seq<|rg 7 0<|mv0 rfl rfl<|mv0 rfl rfl ?_
 cases c574:(mget a0.fat a1).isSome
 ·
  have H:=H.cf c574
  refine sk rfl rfl<|sk rfl rfl<|sk rfl rfl<|sk rfl rfl<|pf0 rfl rfl rfl<|.fin<|WP.cond rfl nofun (fun _=>?_)
  refine WP.skip<|WP.seq<|dg Tryz.checked.mixed 7 64<|mv0 rfl rfl<|Dv.nilpp h572 rfl trivial rfl<|fp h572 rfl trivial rfl fa203_0<|ld 1 rfl trivial rfl sc201 rfl rfl<|lds 4 rfl trivial rfl sg47 rfl rfl<|lds 3 rfl trivial rfl sg49 rfl rfl<|Dv.mupq (jj:=2) a2 rfl trivial rfl rfl rfl (RKey.kq a1) rfl Tryz.underlying201 kok47 (fun _=>pend_bits (by kernel_rfl))<|.fin<|WP.seq<|rg 1 0<|as0 rfl rfl<|.fin<|wg (RTab.shut (p:=p0_) (m:=(⟨mput a0.fat a1 a2⟩:RTab)) (g571.1,g571.2) h572 (pm 5 [1,2,0,3,4])) fun _ _=>?_
  cases H.out; exact rt i2 rfl () 4 [1,2,3,0] 3 (.cons (res_tmp rfl) .nil)
 have H:=H.ct c574
 refine lds 0 rfl (gg rfl) rfl sg49 rfl rfl<|lds 3 rfl (gg rfl) rfl sg49 rfl rfl<|el H fun t575 h576 H=>Dv.call rfl (gg rfl) cal227 rfl (dag_Compare.c h576)<|bng rfl rfl rfl rfl run_ge<|pt0 rfl rfl rfl<|.fin<|cd H rfl (fun _ H=>?_) (fun _ H=>?_)
 ·
  refine WP.seq<|rg 1 0<|as0 rfl rfl<|.fin<|wg (RTab.shut (p:=p0_) (m:=a0) (g571.1,g571.2) h572 (pm 5 [1,2,0,3,4])) fun _ _=>?_
  cases H.out; exact rt i2 rfl () 4 [1,2,3,0] 3 (.cons (res_tmp rfl) .nil)
 refine WP.skip<|WP.seq<|dg Tryz.checked.mixed 7 64<|mv0 rfl rfl<|Dv.nilpp h572 rfl trivial rfl<|fp h572 rfl trivial rfl fa203_0<|ld 1 rfl trivial rfl sc201 rfl rfl<|lds 4 rfl trivial rfl sg47 rfl rfl<|lds 3 rfl trivial rfl sg49 rfl rfl<|Dv.mupq (jj:=2) a2 rfl trivial rfl rfl rfl (RKey.kq a1) rfl Tryz.underlying201 kok47 (fun _=>pend_bits (by kernel_rfl))<|.fin<|WP.seq<|rg 1 0<|as0 rfl rfl<|.fin<|wg (RTab.shut (p:=p0_) (m:=(⟨mput a0.fat a1 a2⟩:RTab)) (g571.1,g571.2) h572 (pm 5 [1,2,0,3,4])) fun _ _=>?_
 cases H.out; exact rt i2 rfl () 4 [1,2,3,0] 3 (.cons (res_tmp rfl) .nil)
theorem marks_Marks_Put.c {k:Nat} {a0:Mks} {a1:VView} {a2:Edu} {p0_ p1_:OV} {r:Bool×Int×Mks} (h:marks_Marks_Put.f k a0 a1 a2 = some r):Tr Tryz.prog 95 [eq p0_.1,eq p1_.1,agg (Edu.enc a2)] [Mks.O p0_ a0,VView.O p1_ a1] (γ:=Unit) (fun _=>True) (fun g=>tup [vB r.1,vI r.2.1]) (fun g=>[Mks.O p0_ r.2.2,VView.O p1_ a1]):=by
 unfold marks_Marks_Put.f at h
 refine tb Tryz.func95 Tryz.ntmps95 h fun R0 F H=>?_
 refine WP.seq<|rg 3 1<|Dv.box rfl trivial rfl cA nofun fun b579=>as0 rfl rfl<|as0 rfl rfl<|.fin<|WP.seq<|WP.seq<|rg 8 0<|fb rfl trivial rfl fa80_0<|ld 0 rfl trivial rfl sc3 rfl rfl<|bn0 rfl rfl rfl run_ne<|mv0 rfl rfl ?_
 cases c580:(a2.fKind != 1)
 rotate_left
 ·
  have H:=H.ct c580
  refine sk rfl rfl<|sk rfl rfl<|sk rfl rfl<|pt0 rfl rfl rfl<|.fin<|WP.cond rfl (fun _=>?_) nofun
  refine WP.seq<|rg 2 0<|as0 rfl rfl<|as0 rfl rfl<|.fin ?_
  cases H.out; exact rt i2 rfl () 3 [0,1,2] 1 (.cons (res_tmp rfl) (.cons (res_tmp rfl) .nil))
 have H:=H.cf c580
 refine lds 0 rfl (gg rfl) rfl sg80 rfl rfl<|el H fun t582 h583 H=>Dv.call rfl (gg rfl) cal128 rfl (edu_Local.c h583)<|ung rfl rfl rfl (run_not _)<|pf0 rfl rfl rfl<|.fin<|cd H rfl (fun _ H=>?_) (fun _ H=>?_)
 ·
  refine WP.seq<|rg 2 0<|as0 rfl rfl<|as0 rfl rfl<|.fin ?_
  cases H.out; exact rt i2 rfl () 3 [0,1,2] 1 (.cons (res_tmp rfl) (.cons (res_tmp rfl) .nil))
 refine WP.skip<|WP.seq<|WP.seq<|rg 9 0<|mv0 rfl rfl<|fb rfl trivial rfl fa80_1<|ld 0 rfl trivial rfl sc9 rfl rfl<|fb rfl trivial rfl fa80_3<|ld 0 rfl trivial rfl sc9 rfl rfl<|fb rfl trivial rfl fa80_4<|ld 0 rfl trivial rfl sc9 rfl rfl<|vg (VView.opn 2 rfl) fun g585 h586=>?_
 refine el H fun t587 h588 H=>cll 4 [0,1,2,3] cal157 (Tr.weak (view_View_Fits.c h588 (b0_:=g585.1) (v0_0:=g585.2)) (.cons (wk_ptr h586) (.cons wk_id (.cons wk_id (.cons wk_id .nil))))) ?_
 refine as0 rfl rfl<|.fin<|WP.seq<|rg 1 0<|mv0 rfl rfl<|.fin<|WP.block<|WP.seq<|rg 2 0<|bn0 rfl rfl rfl run_eq<|as0 rfl rfl<|.fin<|cd H rfl (fun _ H=>?_) (fun _ H=>?_)
 ·
  refine WP.seq<|wg (Mks.opn 3 rfl) fun g590 h591=>?_
  refine dg Tryz.checked.mixed 6 32<|mv0 rfl rfl<|Dv.nilpp h591 rfl trivial rfl<|fp h591 rfl trivial rfl fa123_1<|ld 0 rfl trivial rfl sc121 rfl rfl<|lds 5 rfl trivial rfl sg80 rfl rfl<|el H fun t592 h593 H=>cx 6 [2,0,1,3,4,5] cal158 (park_Park_Put.c h593 (p0_:=g590.2.2)) pC fun _ _=>?_
  refine .fin<|WP.seq<|rg 2 0<|as0 rfl rfl<|as0 rfl rfl<|.fin<|wg (VView.shut (p:=p1_) (m:=a1) (g585.1,g585.2) h586 (pm 6 [3,4,0,1,2,5])) fun _ _=>?_
  refine wg (Mks.shut (p:=p0_) (m:=(⟨a0.fTable,t592.2.2⟩:Mks)) (g590.1,g590.2.1,g590.2.2) h591 (pm 5 [2,3,1,0,4])) fun _ _=>?_
  cases H.out; exact rt i2 rfl () 3 [2,0,1] 1 (.cons (res_tmp rfl) (.cons (res_tmp rfl) .nil))
 refine WP.seq<|rg 2 0<|bn0 rfl rfl rfl run_eq<|as0 rfl rfl<|.fin<|cd H rfl (fun _ H=>?_) (fun _ H=>?_)
 rotate_left
 ·
  refine WP.seq<|rg 3 0<|mv0 rfl rfl<|as0 rfl rfl<|as0 rfl rfl<|.fin<|wg (VView.shut (p:=p1_) (m:=a1) (g585.1,g585.2) h586 (pm 4 [0,1,2,3])) fun _ _=>?_
  cases H.out; exact rt i2 rfl () 3 [1,2,0] 1 (.cons (res_tmp rfl) (.cons (res_tmp rfl) .nil))
 refine WP.skip<|WP.seq<|rg 12 1536<|mv0 rfl rfl<|fb rfl trivial rfl fa80_1<|ld 2 rfl trivial rfl sc9 rfl rfl<|fb rfl trivial rfl fa80_3<|ld 2 rfl trivial rfl sc9 rfl rfl<|el H fun t595 h596 H=>cll 4 [0,1,2,3] cal94 (Tr.weak (view_View_Position.c h596 (b0_:=g585.1) (v0_0:=g585.2)) (.cons (wk_ptr h586) (.cons wk_id (.cons wk_id .nil)))) ?_
 refine mv0 rfl rfl<|ex0 rfl trivial rfl rfl<|ex0 rfl trivial rfl rfl<|al rfl trivial zc49 nofun fun b597=>sx 0 rfl trivial rfl rfl cA sz49 rfl rfl rfl nofun ?_
 refine as0 rfl rfl<|.fin<|WP.seq<|wg (Mks.opn 4 rfl) fun g598 h599=>?_
 refine dg Tryz.checked.mixed 10 128<|mv0 rfl rfl<|Dv.nilpp h599 rfl trivial rfl<|fp h599 rfl trivial rfl fa123_0<|ld 0 rfl trivial rfl sc120 rfl rfl<|lds 6 rfl trivial rfl sg80 rfl rfl<|el H fun t600 h601 H=>cl rfl cal98 rfl (marks_Of.c h601)<|lds 3 rfl trivial rfl sg49 rfl rfl<|el H fun t602 h603 H=>cx 7 [1,0,2,3,4,5,6] cal159 (receipt_Table_Put.c h603 (p0_:=g598.2.1)) pC fun _ _=>?_
 refine as0 rfl rfl<|as0 rfl rfl<|.fin<|wg (VView.shut (p:=p1_) (m:=a1) (g585.1,g585.2) h586 (pm 7 [4,5,0,1,2,3,6])) fun _ _=>?_
 refine wg (Mks.shut (p:=p0_) (m:=(⟨t602.2,a0.fwaits⟩:Mks)) (g598.1,g598.2.1,g598.2.2) h599 (pm 6 [2,1,3,0,4,5])) fun _ _=>?_
 cases H.out; exact rt i2 rfl () 4 [2,3,0,1] 2 (.cons (res_tmp rfl) (.cons (res_tmp rfl) .nil))
theorem park_apart_Edu.c {k:Nat} {a0:List Edu} {a1:Edu→Option Bool} {r:(List Edu)×(List Edu)} (h:park_apart_Edu.f k a0 a1 = some r):Tr Tryz.prog 160 [sl Edu.K a0,fq_api_Edu_bool a1] [] (γ:=OV×OV) (fun _=>True) (fun g=>tup [eq g.1.1,eq g.2.1]) (fun g=>[own Edu.K g.1.1 r.1,own Edu.K g.2.1 r.2]):=by
 unfold park_apart_Edu.f at h
 refine tb Tryz.func160 Tryz.ntmps160 h fun R0 F H=>?_
 refine WP.seq<|rg 2 0<|as0 rfl rfl<|as0 rfl rfl<|.fin<|WP.seq<|rg 2 0<|as0 rfl rfl<|as0 rfl rfl<|.fin<|WP.seqn H (fun q624:(Int×Bool×(List Edu)×(List Edu))×OV×OV=>q624.1) (fun q624:(Int×Bool×(List Edu)×(List Edu))×OV×OV=>[(6,eq q624.2.1.1),(7,eq q624.2.2.1)]) (fun q624:(Int×Bool×(List Edu)×(List Edu))×OV×OV=>[own Edu.K q624.2.1.1 q624.1.2.2.1,own Edu.K q624.2.2.1 q624.1.2.2.2]++F) (fun q624 H=>?_) (fun H=>?_)
 ·
  obtain ⟨p604,v605,v606⟩:=q624
  refine WP.seq<|rg 4 0<|mv0 rfl rfl<|mv0 rfl rfl<|as0 rfl rfl<|as0 rfl rfl<|.fin ?_
  obtain rfl:=Gets.out H
  exact rt i2 rfl (v605,v606) 2 [0,1] 0 (.cons (res_tmp rfl) (.cons (res_tmp rfl) .nil))
 refine WP.seq<|rg 3 0<|mv0 rfl rfl<|Dv.lenl rfl trivial rfl Tryz.underlying40<|mv0 rfl rfl<|.fin<|WP.block<|wg (st_nil Edu.K none) fun _ _=>?_
 refine wg (st_nil Edu.K none) fun _ _=>?_
 refine wg (sg 2 [1,0] 0) fun _ _=>?_
 refine lp (fun j_ (p623:Int×(List Edu)×(List Edu)×OV×OV)=>park_apart_Edu.l0 k a0 a1 j_ p623.1 p623.2.1 p623.2.2.1) (0,([]:List Edu),([]:List Edu),nilV,nilV1) H (fun p623=>[(1,fq_api_Edu_bool a1),(6,eq p623.2.2.2.1.1),(7,eq p623.2.2.2.2.1),(10,sl Edu.K a0),(11,vI (a0.length:Int)),(12,vI p623.1)]) (fun p623=>[own Edu.K p623.2.2.2.1.1 p623.2.1,own Edu.K p623.2.2.2.2.1 p623.2.2.1]++F) ?_
 rintro j_ ⟨x607,x608,x609,v610,v611⟩ H
 rcases j_ with _ | j622
 ·
  exact (Gets.no H).elim
 try dsimp only at H
 rw [park_apart_Edu.l0] at H
 refine WP.seq<|rg 1 0<|bn0 rfl rfl rfl run_lt<|.fin<|WP.seq<|cd H rfl (fun _ H=>?_) (fun _ H=>?_)
 rotate_left
 ·
  refine WP.exit ?_
  have H:=H.out
  exact jn ((x607,decide (x607 < (a0.length:Int)),x608,x609),v610,v611) H
 refine WP.skip<|WP.seq<|WP.block<|WP.seq<|rg 4 12<|gr H fun g613 H=>Dv.ixr rfl trivial rfl rfl Tryz.underlying40 Tryz.underlying80 c80 g613.1 g613.2<|ldsR rfl trivial rfl sg80 rfl<|al rfl trivial zc80 nofun fun b614=>sx 0 rfl trivial rfl rfl cA sz80 rfl rfl rfl nofun ?_
 refine .fin<|WP.seq<|rg 3 0<|mv0 rfl rfl<|lds 0 rfl trivial rfl sg80 rfl rfl<|el H fun t615 h616 H=>Dv.callq (ret:=vB t615) rfl trivial rfl rfl ⟨_,_,h616,rfl,rfl⟩<|.fin<|cd H rfl (fun _ H=>?_) (fun _ H=>?_)
 ·
  refine rg 5 8<|mv0 rfl rfl<|lds 0 rfl trivial rfl sg80 rfl rfl<|Dv.lit Edu.K ([Edu.K.at a0 x607]:List Edu) (css:=[Edu.enc (Edu.K.at a0 x607)]) rfl trivial Tryz.underlying40 Tryz.underlying80 c80 z80 rfl (by decide) (by decide) rfl ⟨(cells_agg (Edu.K.one _)),trivial⟩ rfl rfl rfl<|gr H fun g618 H=>ap Edu.K 1 ([Edu.K.at a0 x607]:List Edu) src_sl Tryz.underlying40 (.inr ⟨_,Tryz.underlying40⟩) inf80 g618 nofun fun v619=>?_
  refine as0 rfl rfl<|.fin<|rg 2 0<|bn0 rfl rfl rfl run_add<|mv0 rfl rfl<|.fin<|ng (sg 3 [0,1,2] 1) fun _ _=>?_
  exact bk j622 (w64 (x607 + 1),x608++([Edu.K.at a0 x607]:List Edu),x609,v619,v611) H
 refine rg 5 8<|mv0 rfl rfl<|lds 0 rfl trivial rfl sg80 rfl rfl<|Dv.lit Edu.K ([Edu.K.at a0 x607]:List Edu) (css:=[Edu.enc (Edu.K.at a0 x607)]) rfl trivial Tryz.underlying40 Tryz.underlying80 c80 z80 rfl (by decide) (by decide) rfl ⟨(cells_agg (Edu.K.one _)),trivial⟩ rfl rfl rfl<|gr H fun g620 H=>ap Edu.K 2 ([Edu.K.at a0 x607]:List Edu) src_sl Tryz.underlying40 (.inr ⟨_,Tryz.underlying40⟩) inf80 g620 nofun fun v621=>?_
 refine as0 rfl rfl<|.fin<|rg 2 0<|bn0 rfl rfl rfl run_add<|mv0 rfl rfl<|.fin<|ng (sg 3 [0,1,2] 1) fun _ _=>?_
 exact bk j622 (w64 (x607 + 1),x608,x609++([Edu.K.at a0 x607]:List Edu),v610,v621) H
theorem park_Park_Take_1.c {a0:Edu} {c0:ByteArray} {c1:ByteArray} {r:Bool} (h:park_Park_Take_1.f a0 c0 c1 = some r):Pt Tryz.prog 161 [agg (Edu.enc a0),rp [vS c0],rp [vS c1]] (vB r):=by
 unfold park_Park_Take_1.f at h
 refine pb Tryz.func161 Tryz.ntmps161 h fun R0 F H=>?_
 refine WP.seq<|rg 2 1<|Dv.box rfl trivial rfl cA nofun fun b625=>as0 rfl rfl<|.fin<|WP.seq<|rg 11 0<|fb rfl trivial rfl fa80_1<|ld 0 rfl trivial rfl sc9 rfl rfl<|ldR rfl trivial rfl sc9 rfl<|bn0 rfl rfl rfl run_seq<|mv0 rfl rfl ?_
 cases c626:decide (a0.fRoom = c0)
 ·
  have H:=H.cf c626
  refine sk rfl rfl<|sk rfl rfl<|sk rfl rfl<|sk rfl rfl<|pf0 rfl rfl rfl<|as0 rfl rfl<|.fin ?_
  cases H.out; exact r1 i2 rfl (.cons (res_tmp rfl) .nil)
 have H:=H.ct c626
 refine fb rfl (gg rfl) rfl fa80_3<|ld 0 rfl (gg rfl) rfl sc9 rfl rfl<|ldR rfl (gg rfl) rfl sc9 rfl<|bng rfl rfl rfl rfl run_seq<|pt0 rfl rfl rfl<|as0 rfl rfl<|.fin ?_
 cases H.out; exact r1 i2 rfl (.cons (res_tmp rfl) .nil)
theorem park_Park_Take.c {k:Nat} {a0:Park} {a1:ByteArray} {a2:ByteArray} {p0_:OV} {r:(List Edu)×Park} (h:park_Park_Take.f k a0 a1 a2 = some r):Tr Tryz.prog 96 [eq p0_.1,vS a1,vS a2] [Park.O p0_ a0] (γ:=OV) (fun _=>True) (fun g=>eq g.1) (fun g=>[Park.O p0_ r.2,own Edu.K g.1 r.1]):=by
 unfold park_Park_Take.f at h
 refine tb Tryz.func96 Tryz.ntmps96 h fun R0 F H=>?_
 refine WP.seq<|rg 3 3<|Dv.box rfl trivial rfl cE nofun fun b627=>Dv.box rfl trivial rfl cE nofun fun b628=>as0 rfl rfl<|.fin<|WP.seq<|rg 11 32<|mv0 rfl rfl<|Dv.nilA Park.nn rfl trivial rfl (mem_at 2 rfl)<|vg (Park.opn 2 rfl) fun g629 h630=>?_
 refine fp h630 rfl trivial rfl fa200_1<|ld 0 rfl trivial rfl sc40 rfl rfl<|Dv.gh (gh_frzb (E':=[(0,eq p0_.1),(1,vS a1),(2,vS a2),(4,rp [vS a1]),(5,eq (.pointer (some ⟨b628,0,none⟩))),(6,eq (.slice none 0 0)),(13,eq g629.2.1)]) (l':=[blk g629.1 200 [vI a0.fmost,eq g629.2.1,vI a0.flost],own Edu.K g629.2.1 a0.fl,blk b628 9 [vS a2]]++F) 3 rfl (cve_cons rfl cv_id (cve_cons rfl cv_id (cve_cons rfl cv_id (cve_cons rfl cv_eq (cve_cons rfl cv_id (cve_cons rfl cv_id (cve_cons rfl cv_id cve_nil))))))) (all2_app (.cons cva_id (.cons cva_id (.cons cva_id .nil))) fun _=>cva_id)) (fun _ _=>?_)
 refine Dv.gh (gh_frzb (E':=[(0,eq p0_.1),(1,vS a1),(2,vS a2),(4,rp [vS a1]),(5,rp [vS a2]),(6,eq (.slice none 0 0)),(13,eq g629.2.1)]) (l':=[blk g629.1 200 [vI a0.fmost,eq g629.2.1,vI a0.flost],own Edu.K g629.2.1 a0.fl]++F) 2 rfl (cve_cons rfl cv_id (cve_cons rfl cv_id (cve_cons rfl cv_id (cve_cons rfl cv_id (cve_cons rfl cv_eq (cve_cons rfl cv_id (cve_cons rfl cv_id cve_nil))))))) (all2_app (.cons cva_id (.cons cva_id .nil)) fun _=>cva_id)) (fun _ _=>?_)
 refine Dv.mkf (Q:=fqQ_api_Edu_bool (fun a0_=>park_Park_Take_1.f a0_ a1 a2)) cal161 (by rintro _ _ ⟨a0_,r_,h_,rfl,rfl⟩; exact park_Park_Take_1.c h_) rfl trivial rfl rfl<|el H fun t631 h632 H=>cx 2 [1,0] cal160 (Tr.lend [own Edu.K g629.2.1 a0.fl] (park_apart_Edu.c h632) (.cons (lt_own (mem_at 0 rfl)) (.cons lt_id .nil)) (fun _=>(flat_tup (flats_cons flat_eq (flats_cons flat_eq flats_nil)))) (fun _=>(flatAs_cons (flatA_own (fun _=>(flats_cons flat_eq (flats_cons flat_eq (flats_cons flat_eq (flats_cons flat_eq (flats_cons flat_eq (flats_cons flat_eq (flats_cons flat_eq (flats_cons flat_eq (flats_cons flat_eq (flats_cons flat_eq (flats_cons flat_eq flats_nil))))))))))))) (flatAs_cons (flatA_own (fun _=>(flats_cons flat_eq (flats_cons flat_eq (flats_cons flat_eq (flats_cons flat_eq (flats_cons flat_eq (flats_cons flat_eq (flats_cons flat_eq (flats_cons flat_eq (flats_cons flat_eq (flats_cons flat_eq (flats_cons flat_eq flats_nil))))))))))))) flatAs_nil)))) nofun fun g633 _=>?_
 refine mv0 rfl rfl<|ex0 rfl trivial rfl rfl<|ex0 rfl trivial rfl rfl<|as0 rfl rfl<|as0 rfl rfl<|.fin<|WP.seq<|rg 5 16<|mv0 rfl rfl<|mv0 rfl rfl<|Dv.nilpp h630 rfl trivial rfl<|fp h630 rfl trivial rfl fa200_1<|sx 3 rfl trivial rfl rfl (cells_one one_ov) sz40 rfl rfl rfl nofun ?_
 refine .fin<|WP.seq<|rg 2 0<|mv0 rfl rfl<|as0 rfl rfl<|.fin<|wg (Park.shut (p:=p0_) (m:=(⟨a0.fmost,t631.2,a0.flost⟩:Park)) (g629.1,g633.2) h630 (pm 4 [3,2,0,1])) fun _ _=>?_
 obtain rfl:=Gets.out H
 exact rt i2 rfl g633.1 3 [1,0,2] 1 (.cons (res_tmp rfl) .nil)
theorem slices_Index_Key.c {k:Nat} {a0:List RKey} {a1:RKey} {r:Int} (h:slices_Index_Key.f k a0 a1 = some r):Pt Tryz.prog 162 [sl RKey.K a0,agg (RKey.enc a1)] (vI r):=by
 unfold slices_Index_Key.f at h
 refine pb Tryz.func162 Tryz.ntmps162 h fun R0 F H=>?_
 refine WP.seq<|rg 2 1<|Dv.box rfl trivial rfl cA nofun fun b634=>as0 rfl rfl<|.fin<|WP.seqr H id (fun p635:Int×Bool=>[]) (fun p635:Int×Bool=>[blk b634 47 (RKey.enc a1)]++F) (fun p635 H=>?_) (fun H=>?_)
 ·
  refine WP.seq<|rg 1 0<|as0 rfl rfl<|.fin ?_
  cases H.out; exact r1 i2 rfl (.cons (res_tmp rfl) .nil)
 refine WP.seq<|rg 3 0<|mv0 rfl rfl<|Dv.lenl rfl trivial rfl Tryz.underlying162<|mv0 rfl rfl<|.fin<|WP.block<|wg (sg 1 [0] 0) fun _ _=>?_
 refine lp (fun j_ (p641:Int)=>slices_Index_Key.l0 k a0 a1 j_ p641) 0 H (fun p641=>[(0,sl RKey.K a0),(3,eq (.pointer (some ⟨b634,0,none⟩))),(7,vI (a0.length:Int)),(8,vI p641)]) (fun p641=>[blk b634 47 (RKey.enc a1)]++F) ?_
 rintro j_ x636 H
 rcases j_ with _ | j640
 ·
  exact (Gets.no H).elim
 try dsimp only at H
 rw [slices_Index_Key.l0] at H
 refine WP.seq<|rg 1 0<|bn0 rfl rfl rfl run_lt<|.fin<|WP.seq<|cd H rfl (fun _ H=>?_) (fun _ H=>?_)
 rotate_left
 ·
  refine WP.exit ?_
  have H:=H.out
  exact jn (x636,decide (x636 < (a0.length:Int))) H
 refine WP.skip<|WP.seq<|WP.block<|WP.seq<|rg 2 0<|mv0 rfl rfl<|as0 rfl rfl<|.fin<|WP.seq<|dg Tryz.checked.mixed 6 0<|lds 0 rfl trivial rfl sg47 rfl rfl<|mv0 rfl rfl<|mv0 rfl rfl<|gr H fun g638 H=>Dv.ixr rfl trivial rfl rfl Tryz.underlying162 Tryz.underlying47 c47 g638.1 g638.2<|ldsR rfl trivial rfl sg47 rfl<|Dv.eqs [.string a1.fRoom,.string a1.fUser,.string a1.fThread,.bool a1.fPrivate] [.string ((RKey.K.at a0 x636).fRoom),.string ((RKey.K.at a0 x636).fUser),.string ((RKey.K.at a0 x636).fThread),.bool ((RKey.K.at a0 x636).fPrivate)] rfl trivial rfl rfl rfl rfl eg47 (fun _=>equal_of 2 (by decide) (fun _=>eqt47 a1 (RKey.K.at a0 x636)))<|.fin<|cd H rfl (fun _ H=>?_) (fun _ H=>?_)
 rotate_left
 ·
  exact WP.skip<|rg 2 0<|bn0 rfl rfl rfl run_add<|mv0 rfl rfl<|.fin<|bk j640 (w64 (x636 + 1)) H
 refine WP.seq<|rg 2 0<|mv0 rfl rfl<|as0 rfl rfl<|.fin ?_
 have H:=H.outr
 cases H.out; exact r1 i2 rfl (.cons (res_tmp rfl) .nil)
theorem slices_Contains_Key.c {k:Nat} {a0:List RKey} {a1:RKey} {r:Bool} (h:slices_Contains_Key.f k a0 a1 = some r):Pt Tryz.prog 97 [sl RKey.K a0,agg (RKey.enc a1)] (vB r):=by
 unfold slices_Contains_Key.f at h
 refine pb Tryz.func97 Tryz.ntmps97 h fun R0 F H=>?_
 refine WP.seq<|rg 2 1<|Dv.box rfl trivial rfl cA nofun fun b642=>as0 rfl rfl<|.fin<|WP.seq<|rg 5 0<|mv0 rfl rfl<|lds 0 rfl trivial rfl sg47 rfl rfl<|el H fun t643 h644 H=>cl rfl cal162 rfl (slices_Index_Key.c h644)<|bn0 rfl rfl rfl run_ge<|as0 rfl rfl<|.fin ?_
 cases H.out; exact r1 i2 rfl (.cons (res_tmp rfl) .nil)
theorem marks_Marks_Arrive.c {k:Nat} {a0:Mks} {a1:VView} {a2:ByteArray} {a3:ByteArray} {p0_ p1_:OV} {r:(List RKey)×Mks} (h:marks_Marks_Arrive.f k a0 a1 a2 a3 = some r):Tr Tryz.prog 64 [eq p0_.1,eq p1_.1,vS a2,vS a3] [Mks.O p0_ a0,VView.O p1_ a1] (γ:=OV) (fun _=>True) (fun g=>eq g.1) (fun g=>[Mks.O p0_ r.2,VView.O p1_ a1,own RKey.K g.1 r.1]):=by
 unfold marks_Marks_Arrive.f at h
 refine tb Tryz.func64 Tryz.ntmps64 h fun R0 F H=>?_
 refine WP.seq<|rg 1 0<|as0 rfl rfl<|.fin<|WP.seq<|WP.seq<|rg 10 384<|mv0 rfl rfl<|mv0 rfl rfl<|mv0 rfl rfl<|vg (VView.opn 1 rfl) fun g645 h646=>?_
 refine el H fun t647 h648 H=>cll 3 [0,1,2] cal94 (Tr.weak (view_View_Position.c h648 (b0_:=g645.1) (v0_0:=g645.2)) (.cons (wk_ptr h646) (.cons wk_id (.cons wk_id .nil)))) ?_
 refine mv0 rfl rfl<|ex0 rfl trivial rfl rfl<|ex0 rfl trivial rfl rfl<|al rfl trivial zc49 nofun fun b649=>sx 0 rfl trivial rfl rfl cA sz49 rfl rfl rfl nofun ?_
 refine as0 rfl rfl<|.fin<|WP.seq<|rg 2 0<|mv0 rfl rfl<|un0 rfl rfl (run_not _)<|.fin<|cd H rfl (fun _ H=>?_) (fun _ H=>?_)
 ·
  refine WP.seq<|rg 1 0<|as0 rfl rfl<|.fin<|wg (VView.shut (p:=p1_) (m:=a1) (g645.1,g645.2) h646 (pm 4 [1,2,0,3])) fun _ _=>?_
  refine wg (st_nil RKey.K none) fun _ _=>?_
  obtain rfl:=Gets.out H
  exact rt i2 rfl nilV 4 [2,3,1,0] 1 (.cons (res_tmp rfl) .nil)
 refine WP.skip<|WP.seq<|rg 1 0<|as0 rfl rfl<|.fin<|WP.seq<|rg 1 0<|as0 rfl rfl<|.fin<|WP.seqn H (fun q682:(Int×Int×Bool×Mks×(List RKey)×(List Edu))×OV×OV=>q682.1) (fun q682:(Int×Int×Bool×Mks×(List RKey)×(List Edu))×OV×OV=>[(12,eq q682.2.1.1)]) (fun q682:(Int×Int×Bool×Mks×(List RKey)×(List Edu))×OV×OV=>[blk b649 49 (Pos.enc t647.1),Mks.O p0_ q682.1.2.2.2.1,VView.O p1_ a1,own RKey.K q682.2.1.1 q682.1.2.2.2.2.1,own Edu.K q682.2.2.1 q682.1.2.2.2.2.2]++F) (fun q682 H=>?_) (fun H=>?_)
 ·
  obtain ⟨p651,v652,v653⟩:=q682
  refine WP.seq<|rg 2 0<|mv0 rfl rfl<|as0 rfl rfl<|.fin ?_
  obtain rfl:=Gets.out H
  exact rt i2 rfl v652 5 [0,4,1,2,3] 2 (.cons (res_tmp rfl) .nil)
 refine WP.seq<|rg 9 64<|mv0 rfl rfl<|Dv.nilA Mks.nn rfl trivial rfl (mem_at 3 rfl)<|vg (Mks.opn 3 rfl) fun g654 h655=>?_
 refine fp h655 rfl trivial rfl fa123_1<|ld 0 rfl trivial rfl sc121 rfl rfl<|mv0 rfl rfl<|mv0 rfl rfl<|el H fun t656 h657 H=>cx 6 [2,0,1,3,4,5] cal96 (park_Park_Take.c h657 (p0_:=g654.2.2)) nofun fun g658 _=>?_
 refine Dv.lenw rfl trivial rfl (mem_at 1 rfl) Tryz.underlying40<|mv0 rfl rfl<|.fin<|WP.block<|wg (VView.shut (p:=p1_) (m:=a1) (g645.1,g645.2) h646 (pm 7 [5,6,0,1,2,3,4])) fun _ _=>?_
 refine wg (Mks.shut (p:=p0_) (m:=(⟨a0.fTable,t656.2⟩:Mks)) (g654.1,g654.2.1,g654.2.2) h655 (pm 6 [3,4,1,0,2,5])) fun _ _=>?_
 refine wg (st_nil RKey.K none) fun _ _=>?_
 refine wg (sg 5 [4,1,2,3,0] 0) fun _ _=>?_
 refine lp (fun j_ (p681:Int×Mks×(List RKey)×OV)=>marks_Marks_Arrive.l0 k a1 t656 j_ p681.1 p681.2.1 p681.2.2.1) (0,(⟨a0.fTable,t656.2⟩:Mks),([]:List RKey),nilV) H (fun p681=>[(0,eq p0_.1),(1,eq p1_.1),(11,eq (.func (.func 95) #[] #[])),(12,eq p681.2.2.2.1),(32,eq g658.1),(33,vI (t656.1.length:Int)),(34,vI p681.1)]) (fun p681=>[blk b649 49 (Pos.enc t647.1),Mks.O p0_ p681.2.1,VView.O p1_ a1,own Edu.K g658.1 t656.1,own RKey.K p681.2.2.2.1 p681.2.2.1]++F) ?_
 rintro j_ ⟨x659,x660,x661,v662⟩ H
 rcases j_ with _ | j680
 ·
  exact (Gets.no H).elim
 try dsimp only at H
 rw [marks_Marks_Arrive.l0] at H
 refine WP.seq<|rg 1 0<|bn0 rfl rfl rfl run_lt<|.fin<|WP.seq<|cd H rfl (fun _ H=>?_) (fun _ H=>?_)
 rotate_left
 ·
  refine WP.exit ?_
  have H:=H.out
  refine ng (sg 5 [0,1,2,4,3] 0) fun _ _=>?_
  exact jn (((t656.1.length:Int),x659,decide (x659 < (t656.1.length:Int)),x660,x661,t656.1),v662,g658) H
 refine WP.skip<|WP.seq<|WP.block<|WP.seq<|rg 4 12<|gr H fun g664 H=>?_
 have h665:x659.toNat < t656.1.length:=idx_lt g664
 refine Dv.ixw rfl trivial rfl (mem_at 3 rfl) rfl Tryz.underlying40 Tryz.underlying80 c80 g664.1 g664.2<|Dv.ldws (j:=x659.toNat) (f:=0) rfl trivial rfl (mem_at 3 rfl) h665 Tryz.underlying80 rfl c80 (Nat.le_of_ble_eq_true rfl)<|al rfl trivial zc80 nofun fun b666=>sx 0 rfl trivial rfl rfl cA sz80 rfl rfl rfl nofun ?_
 refine .fin<|WP.seq<|rg 10 16<|mv0 rfl rfl<|mv0 rfl rfl<|mv0 rfl rfl<|lds 0 rfl trivial rfl sg80 rfl rfl<|el H fun t667 h668 H=>Dv.callkx (pre:=[Mks.O p0_ x660,VView.O p1_ a1]) (F:=[blk b666 80 (Edu.enc (t656.1.getD x659.toNat default)),blk b649 49 (Pos.enc t647.1),own Edu.K g658.1 t656.1,own RKey.K v662.1 x661]++F) (fun _:Unit=>[Mks.O p0_ t667.2.2,VView.O p1_ a1,blk b666 80 (Edu.enc (t656.1.getD x659.toNat default)),blk b649 49 (Pos.enc t647.1),own Edu.K g658.1 t656.1,own RKey.K v662.1 x661]++F) rfl trivial rfl cal95 rfl (marks_Marks_Put.c h668 (p0_:=p0_) (p1_:=p1_)) (perm_to (L:=[blk b666 80 (Edu.enc (t656.1.getD x659.toNat default)),blk b649 49 (Pos.enc t647.1),Mks.O p0_ x660,VView.O p1_ a1,own Edu.K g658.1 t656.1,own RKey.K v662.1 x661]) (F:=F) [2,3,0,1,4,5] (by kernel_rfl) rfl rfl) rfl nofun (fun _ _=>?_)
 refine mv0 rfl rfl<|ex0 rfl trivial rfl rfl<|ex0 rfl trivial rfl rfl<|as0 rfl rfl<|as0 rfl rfl<|.fin<|WP.seq<|rg 8 0<|mv0 rfl rfl<|mv0 rfl rfl ?_
 cases c669:t667.1
 ·
  have H:=H.cf c669
  refine sk rfl rfl<|sk rfl rfl<|sk rfl rfl<|sk rfl rfl<|sk rfl rfl<|pf0 rfl rfl rfl<|.fin<|WP.cond rfl nofun (fun _=>?_)
  refine WP.skip<|rg 2 0<|bn0 rfl rfl rfl run_add<|mv0 rfl rfl<|.fin<|ng (sg 6 [2,3,0,1,4,5] 1) fun _ _=>?_
  exact bk j680 (w64 (x659 + 1),t667.2.2,x661,v662) H
 have H:=H.ct c669
 refine mvg rfl rfl rfl<|lds 2 rfl (gg rfl) rfl sg80 rfl rfl<|el H fun t670 h671 H=>Dv.call rfl (gg rfl) cal98 rfl (marks_Of.c h671)<|el H fun t672 h673 H=>cll (B:=[own RKey.K v662.1 x661]) 6 [5,0,1,2,3,4] cal97 (Pt.lend _ (slices_Contains_Key.c h673) (.cons (lt_own (mem_at 0 rfl)) (.cons lt_id .nil)) flat_eq) ?_
 refine ung rfl rfl rfl (run_not _)<|pt0 rfl rfl rfl<|.fin<|cd H rfl (fun _ H=>?_) (fun _ H=>?_)
 rotate_left
 ·
  refine WP.skip<|rg 2 0<|bn0 rfl rfl rfl run_add<|mv0 rfl rfl<|.fin<|ng (sg 6 [2,3,0,1,4,5] 1) fun _ _=>?_
  exact bk j680 (w64 (x659 + 1),t667.2.2,x661,v662) H
 refine rg 6 16<|mv0 rfl rfl<|lds 2 rfl trivial rfl sg80 rfl rfl<|el H fun t675 h676 H=>cl rfl cal98 rfl (marks_Of.c h676)<|Dv.lit RKey.K ([t675]:List RKey) (css:=[RKey.enc t675]) rfl trivial Tryz.underlying162 Tryz.underlying47 c47 z47 rfl (by decide) (by decide) rfl ⟨(cells_agg (RKey.K.one _)),trivial⟩ rfl rfl rfl<|gr H fun g677 H=>ap RKey.K 5 ([t675]:List RKey) src_sl Tryz.underlying162 (.inr ⟨_,Tryz.underlying162⟩) inf47 g677 nofun fun v678=>?_
 refine as0 rfl rfl<|.fin<|rg 2 0<|bn0 rfl rfl rfl run_add<|mv0 rfl rfl<|.fin<|ng (sg 6 [2,3,0,1,4,5] 1) fun _ _=>?_
 exact bk j680 (w64 (x659 + 1),t667.2.2,x661++([t675]:List RKey),v678) H
theorem atomic_Int64_CompareAndSwap.c {b off:Nat} {bT:TypeId} {qs:Cs} {n m:Int} (h0:qs[off]? = some (vI n)):Tr Tryz.prog 208 [eq (.pointer (some ⟨b,off,none⟩)),vI n,vI m] [blk b bT qs] (γ:=Unit) (fun _=>True) (fun _=>vB true) (fun _=>[blk b bT (qs.set off (vI m))]):=by
 exact Tr.body Tryz.func208 (c:=_) rfl Tryz.ntmps208 (Nat.le_of_ble_eq_true rfl) fun R0 F=>WP.seq<|WP.reg [(0,false)] (by kernel_rfl)<|as0 rfl rfl<|.fin<|WP.seq<|WP.reg [(0,false),(1,false),(2,false),(3,false),(4,false),(5,true),(6,false)] (by kernel_rfl)<|mv0 rfl rfl<|Dv.nilp rfl trivial rfl<|fb rfl trivial rfl fa135_2<|mv0 rfl rfl<|mv0 rfl rfl<|Dv.cextb (jj:=0) (qs:=qs) rfl trivial rfl (xt_cas h0 Tryz.func258 (by kernel_rfl) rfl xf258 xg258) rfl nofun<|as0 rfl rfl<|.fin<|rt i2 rfl () 1 [0] 0 (.cons (res_tmp rfl) .nil)
theorem clock_Counter_Add.c {k:Nat} {a0:Ctr} {a1:Int} {p0_:OV} {r:Int×Int×Ctr} (h:clock_Counter_Add.f k a0 a1 = some r):Tr Tryz.prog 134 [eq p0_.1,vI a1] [Ctr.O p0_ a0] (γ:=Unit) (fun _=>True) (fun g=>tup [vI r.1,vI r.2.1]) (fun g=>[Ctr.O p0_ r.2.2]):=by
 unfold clock_Counter_Add.f at h
 refine tb Tryz.func134 Tryz.ntmps134 h fun R0 F H=>?_
 refine WP.seq<|rg 2 0<|as0 rfl rfl<|as0 rfl rfl<|.fin<|WP.seq<|WP.seq<|rg 2 0<|mv0 rfl rfl<|bn0 rfl rfl rfl run_lt<|.fin<|cd H rfl (fun _ H=>?_) (fun _ H=>?_)
 ·
  refine WP.seq<|rg 2 0<|as0 rfl rfl<|as0 rfl rfl<|.fin ?_
  cases H.out; exact rt i2 rfl () 1 [0] 0 (.cons (res_tmp rfl) (.cons (res_tmp rfl) .nil))
 refine WP.skip<|WP.block<|wg (sg 1 [0] 0) fun _ _=>?_
 refine lp (fun j_ (p704:Unit)=>clock_Counter_Add.l0 k a0 a1 j_) () H (fun p704=>[(0,eq p0_.1),(1,vI a1)]) (fun p704=>[Ctr.O p0_ a0]++F) ?_
 rintro j_ ⟨⟩ H
 rcases j_ with _ | j703
 ·
  exact (Gets.no H).elim
 try dsimp only at H
 rw [clock_Counter_Add.l0] at H
 refine WP.block<|WP.seq<|rg 5 0<|mv0 rfl rfl<|Dv.nilA Ctr.nn rfl trivial rfl (mem_at 0 rfl)<|vg (Ctr.opn 0 rfl) fun g684 h685=>?_
 refine fp h685 rfl trivial rfl fa137_0<|cll 1 [0] cal61 (atomic_Int64_Load.c (b:=g684) (off:=0) (bT:=137) (qs:=[vI a0.fn.fv,vI a0.fmost]) (n:=a0.fn.fv) rfl) ?_
 refine as0 rfl rfl<|.fin<|WP.seq<|WP.seq<|rg 10 0<|mv0 rfl rfl<|bn0 rfl rfl rfl run_gt<|mv0 rfl rfl ?_
 cases c686:decide (0 < a1)
 ·
  have H:=H.cf c686
  refine sk rfl rfl<|sk rfl rfl<|sk rfl rfl<|sk rfl rfl<|sk rfl rfl<|sk rfl rfl<|pf0 rfl rfl rfl<|.fin<|WP.cond rfl nofun (fun _=>?_)
  refine WP.skip<|WP.seq<|rg 5 0<|mv0 rfl rfl<|Dv.nilpp h685 rfl trivial rfl<|fp h685 rfl trivial rfl fa137_1<|ld 0 rfl trivial rfl sc2 rfl rfl<|as0 rfl rfl<|.fin<|WP.seqn H id (fun p696:Int=>[(0,eq p0_.1),(1,vI a1),(6,vI a0.fn.fv),(7,vI p696)]) (fun p696:Int=>[Ctr.O p0_ a0]++F) (fun p696 H=>?_) (fun H=>?_)
  rotate_left
  ·
   refine WP.seq<|rg 8 0<|mv0 rfl rfl<|mv0 rfl rfl<|Dv.nilpp h685 rfl trivial rfl<|fp h685 rfl trivial rfl fa137_1<|ld 0 rfl trivial rfl sc2 rfl rfl<|mv0 rfl rfl<|bn0 rfl rfl rfl run_sub<|bn0 rfl rfl rfl run_lt<|.fin<|cd H rfl (fun _ H=>?_) (fun _ H=>?_)
   rotate_left
   ·
    refine WP.skip ?_
    have H:=H.out
    refine ng (Ctr.shut (p:=p0_) (m:=a0) g684 h685 (pm 1 [0])) fun _ _=>?_
    exact jn a0.fmost H
   refine rg 4 0<|mv0 rfl rfl<|mv0 rfl rfl<|bn0 rfl rfl rfl run_add<|as0 rfl rfl<|.fin ?_
   have H:=H.out
   refine ng (Ctr.shut (p:=p0_) (m:=a0) g684 h685 (pm 1 [0])) fun _ _=>?_
   exact jn (w64 (a0.fn.fv + a1)) H
  refine WP.seq<|rg 10 256<|mv0 rfl rfl<|bn0 rfl rfl rfl run_eq<|mv0 rfl rfl ?_
  cases c697:(a1 == 0)
  rotate_left
  ·
   have H:=H.ct c697
   refine sk rfl rfl<|sk rfl rfl<|sk rfl rfl<|sk rfl rfl<|sk rfl rfl<|Dv.skipb rfl ⟨_,_,rfl,rfl,.inl rfl⟩ nofun<|pt0 rfl rfl rfl<|.fin<|WP.cond rfl (fun _=>?_) nofun
   refine WP.seq<|rg 3 0<|mv0 rfl rfl<|as0 rfl rfl<|as0 rfl rfl<|.fin ?_
   cases H.out; exact rt i2 rfl () 1 [0] 0 (.cons (res_tmp rfl) (.cons (res_tmp rfl) .nil))
  have H:=H.cf c697
  refine mvg rfl rfl rfl<|Dv.nilA Ctr.nn rfl (gg rfl) rfl (mem_at 0 rfl)<|vg (Ctr.opn 0 rfl) fun g699 h700=>?_
  refine fp h700 rfl (gg rfl) rfl fa137_0<|mvg rfl rfl rfl<|mvg rfl rfl rfl<|cx 1 [0] cal208 (atomic_Int64_CompareAndSwap.c (b:=g699) (off:=0) (bT:=137) (qs:=[vI a0.fn.fv,vI a0.fmost]) (n:=a0.fn.fv) (m:=p696) rfl) nofun fun _ _=>?_
  refine pf0 rfl rfl rfl<|.fin<|WP.cond rfl (fun _=>?_) nofun
  refine WP.seq<|rg 3 0<|mv0 rfl rfl<|as0 rfl rfl<|as0 rfl rfl<|.fin<|wg (Ctr.shut (p:=p0_) (m:=(⟨(⟨p696⟩:AtI),a0.fmost⟩:Ctr)) g699 h700 (pm 1 [0])) fun _ _=>?_
  cases H.out; exact rt i2 rfl () 1 [0] 0 (.cons (res_tmp rfl) (.cons (res_tmp rfl) .nil))
 have H:=H.ct c686
 refine mvg rfl rfl rfl<|mvg rfl rfl rfl<|Dv.nilpp h685 rfl (gg rfl) rfl<|fp h685 rfl (gg rfl) rfl fa137_1<|ld 0 rfl (gg rfl) rfl sc2 rfl rfl<|bng rfl rfl rfl rfl run_eq<|pt0 rfl rfl rfl<|.fin<|cd H rfl (fun _ H=>?_) (fun _ H=>?_)
 ·
  refine WP.seq<|rg 2 0<|as0 rfl rfl<|as0 rfl rfl<|.fin<|wg (Ctr.shut (p:=p0_) (m:=a0) g684 h685 (pm 1 [0])) fun _ _=>?_
  cases H.out; exact rt i2 rfl () 1 [0] 0 (.cons (res_tmp rfl) (.cons (res_tmp rfl) .nil))
 refine WP.skip<|WP.seq<|rg 5 0<|mv0 rfl rfl<|Dv.nilpp h685 rfl trivial rfl<|fp h685 rfl trivial rfl fa137_1<|ld 0 rfl trivial rfl sc2 rfl rfl<|as0 rfl rfl<|.fin<|WP.seqn H id (fun p688:Int=>[(0,eq p0_.1),(1,vI a1),(6,vI a0.fn.fv),(7,vI p688)]) (fun p688:Int=>[Ctr.O p0_ a0]++F) (fun p688 H=>?_) (fun H=>?_)
 rotate_left
 ·
  refine WP.seq<|rg 8 0<|mv0 rfl rfl<|mv0 rfl rfl<|Dv.nilpp h685 rfl trivial rfl<|fp h685 rfl trivial rfl fa137_1<|ld 0 rfl trivial rfl sc2 rfl rfl<|mv0 rfl rfl<|bn0 rfl rfl rfl run_sub<|bn0 rfl rfl rfl run_lt<|.fin<|cd H rfl (fun _ H=>?_) (fun _ H=>?_)
  rotate_left
  ·
   refine WP.skip ?_
   have H:=H.out
   refine ng (Ctr.shut (p:=p0_) (m:=a0) g684 h685 (pm 1 [0])) fun _ _=>?_
   exact jn a0.fmost H
  refine rg 4 0<|mv0 rfl rfl<|mv0 rfl rfl<|bn0 rfl rfl rfl run_add<|as0 rfl rfl<|.fin ?_
  have H:=H.out
  refine ng (Ctr.shut (p:=p0_) (m:=a0) g684 h685 (pm 1 [0])) fun _ _=>?_
  exact jn (w64 (a0.fn.fv + a1)) H
 refine WP.seq<|rg 10 256<|mv0 rfl rfl<|bn0 rfl rfl rfl run_eq<|mv0 rfl rfl ?_
 cases c689:(a1 == 0)
 rotate_left
 ·
  have H:=H.ct c689
  refine sk rfl rfl<|sk rfl rfl<|sk rfl rfl<|sk rfl rfl<|sk rfl rfl<|Dv.skipb rfl ⟨_,_,rfl,rfl,.inl rfl⟩ nofun<|pt0 rfl rfl rfl<|.fin<|WP.cond rfl (fun _=>?_) nofun
  refine WP.seq<|rg 3 0<|mv0 rfl rfl<|as0 rfl rfl<|as0 rfl rfl<|.fin ?_
  cases H.out; exact rt i2 rfl () 1 [0] 0 (.cons (res_tmp rfl) (.cons (res_tmp rfl) .nil))
 have H:=H.cf c689
 refine mvg rfl rfl rfl<|Dv.nilA Ctr.nn rfl (gg rfl) rfl (mem_at 0 rfl)<|vg (Ctr.opn 0 rfl) fun g691 h692=>?_
 refine fp h692 rfl (gg rfl) rfl fa137_0<|mvg rfl rfl rfl<|mvg rfl rfl rfl<|cx 1 [0] cal208 (atomic_Int64_CompareAndSwap.c (b:=g691) (off:=0) (bT:=137) (qs:=[vI a0.fn.fv,vI a0.fmost]) (n:=a0.fn.fv) (m:=p688) rfl) nofun fun _ _=>?_
 refine pf0 rfl rfl rfl<|.fin<|WP.cond rfl (fun _=>?_) nofun
 refine WP.seq<|rg 3 0<|mv0 rfl rfl<|as0 rfl rfl<|as0 rfl rfl<|.fin<|wg (Ctr.shut (p:=p0_) (m:=(⟨(⟨p688⟩:AtI),a0.fmost⟩:Ctr)) g691 h692 (pm 1 [0])) fun _ _=>?_
 cases H.out; exact rt i2 rfl () 1 [0] 0 (.cons (res_tmp rfl) (.cons (res_tmp rfl) .nil))
theorem clock_Counter_Next.c {k:Nat} {a0:Ctr} {p0_:OV} {r:Int×Int×Ctr} (h:clock_Counter_Next.f k a0 = some r):Tr Tryz.prog 80 [eq p0_.1] [Ctr.O p0_ a0] (γ:=Unit) (fun _=>True) (fun g=>tup [vI r.1,vI r.2.1]) (fun g=>[Ctr.O p0_ r.2.2]):=by
 unfold clock_Counter_Next.f at h
 refine tb Tryz.func80 Tryz.ntmps80 h fun R0 F H=>?_
 refine WP.seq<|rg 2 0<|as0 rfl rfl<|as0 rfl rfl<|.fin<|WP.seq<|rg 6 2<|mv0 rfl rfl<|el H fun t705 h706 H=>cx 1 [0] cal134 (clock_Counter_Add.c h706 (p0_:=p0_)) nofun fun _ _=>?_
 refine ex0 rfl trivial rfl rfl<|ex0 rfl trivial rfl rfl<|as0 rfl rfl<|as0 rfl rfl<|.fin ?_
 cases H.out; exact rt i2 rfl () 1 [0] 0 (.cons (res_tmp rfl) (.cons (res_tmp rfl) .nil))
theorem slices_Index_string.c {k:Nat} {a0:List ByteArray} {a1:ByteArray} {r:Int} (h:slices_Index_string.f k a0 a1 = some r):Pt Tryz.prog 163 [sl strK a0,vS a1] (vI r):=by
 unfold slices_Index_string.f at h
 refine pb Tryz.func163 Tryz.ntmps163 h fun R0 F H=>?_
 refine WP.seq<|rg 1 0<|as0 rfl rfl<|.fin<|WP.seqr H id (fun p707:Int×Bool=>[]) (fun p707:Int×Bool=>F) (fun p707 H=>?_) (fun H=>?_)
 ·
  refine WP.seq<|rg 1 0<|as0 rfl rfl<|.fin ?_
  cases H.out; exact r0 i2 rfl (.cons (res_tmp rfl) .nil)
 refine WP.seq<|rg 3 0<|mv0 rfl rfl<|Dv.lenl rfl trivial rfl Tryz.underlying23<|mv0 rfl rfl<|.fin<|WP.block<|wg (sg 0 [] 0) fun _ _=>?_
 refine lp (fun j_ (p713:Int)=>slices_Index_string.l0 k a0 a1 j_ p713) 0 H (fun p713=>[(0,sl strK a0),(1,vS a1),(7,vI (a0.length:Int)),(8,vI p713)]) (fun p713=>F) ?_
 rintro j_ x708 H
 rcases j_ with _ | j712
 ·
  exact (Gets.no H).elim
 try dsimp only at H
 rw [slices_Index_string.l0] at H
 refine WP.seq<|rg 1 0<|bn0 rfl rfl rfl run_lt<|.fin<|WP.seq<|cd H rfl (fun _ H=>?_) (fun _ H=>?_)
 rotate_left
 ·
  refine WP.exit ?_
  have H:=H.out
  exact jn (x708,decide (x708 < (a0.length:Int))) H
 refine WP.skip<|WP.seq<|WP.block<|WP.seq<|rg 2 0<|mv0 rfl rfl<|as0 rfl rfl<|.fin<|WP.seq<|rg 6 0<|mv0 rfl rfl<|mv0 rfl rfl<|mv0 rfl rfl<|gr H fun g710 H=>Dv.ixr rfl trivial rfl rfl Tryz.underlying23 Tryz.underlying9 c9 g710.1 g710.2<|ldR rfl trivial rfl sc9 rfl<|bn0 rfl rfl rfl run_seq<|.fin<|cd H rfl (fun _ H=>?_) (fun _ H=>?_)
 rotate_left
 ·
  exact WP.skip<|rg 2 0<|bn0 rfl rfl rfl run_add<|mv0 rfl rfl<|.fin<|bk j712 (w64 (x708 + 1)) H
 refine WP.seq<|rg 2 0<|mv0 rfl rfl<|as0 rfl rfl<|.fin ?_
 have H:=H.outr
 cases H.out; exact r0 i2 rfl (.cons (res_tmp rfl) .nil)
theorem slices_Delete_string.c {a0:List ByteArray} {a1 a2:Int} {p0_:OV} {r:List ByteArray} (h:slices_Delete_string.f a0 a1 a2 = some r):Tr Tryz.prog 164 [eq p0_.1,vI a1,vI a2] [own strK p0_.1 a0] (γ:=OV) (fun _=>True) (fun g=>eq g.1) (fun g=>[own strK g.1 r]):=by
  unfold slices_Delete_string.f at h
  obtain ⟨⟨h1,h2,h3⟩,h5⟩:=(Gets.of h).grd
  obtain rfl:=Gets.out h5
  clear h h5
  obtain ⟨i,rfl⟩:=Int.eq_ofNat_of_zero_le h1
  obtain ⟨j,rfl⟩:=Int.eq_ofNat_of_zero_le (show (0:Int)≤a2 by omega)
  have hij:i≤j:=by omega
  have hj:j≤a0.length:=by omega
  obtain ⟨v,hv⟩:=p0_
  rw [Int.toNat_natCast,Int.toNat_natCast]
  refine Tr.body Tryz.func164 (c:=_) rfl Tryz.ntmps164 (Nat.le_of_ble_eq_true rfl) fun R0 F=>?_
  refine WP.seq<|rg 1 0<|as0 rfl rfl<|.fin<|WP.seq<|rg 6 0<|mv0 rfl rfl<|mv0 rfl rfl<|mv0 rfl rfl<|mv0 rfl rfl<|Dv.lenw (Kd:=strK) (xs:=a0) (v:=v) rfl trivial rfl (mem_at 0 rfl) Tryz.underlying23<|Dv.sl3 (Kd:=strK) rfl trivial rfl (mem_at 0 rfl) Tryz.underlying23 Tryz.underlying9 c9 (bdE_nat rfl) (bdE_nat rfl) (bdE_nat rfl) hij hj<|.fin<|WP.seq<|WP.seq<|rg 3 0<|mv0 rfl rfl<|mv0 rfl rfl<|bn0 rfl rfl rfl run_eq<|.fin<|WP.cond rfl (fun c0=>?_) (fun c0=>?_)
  · have e1:i = j:=by have:=beq_iff_eq.1 c0; omega
    subst e1
    rw [List.take_append_drop]
    refine WP.seq<|rg 2 0<|mv0 rfl rfl<|as0 rfl rfl<|.fin ?_
    exact WP.retL (fun _ _ h=>h) rfl (⟨v,hv⟩:OV) trivial (.cons (res_tmp rfl) .nil) rfl (st_sel (L:=[own strK v a0]) (F:=F) [0] 0 rfl rfl rfl)
  have hlt:i < j:=by
    have:¬ ((i:Int) = (j:Int)):=by simpa using c0
    omega
  have hzl:(a0.take i++a0.drop j++a0.drop (i + (a0.length - j))).length = a0.length:=by simp only [List.length_append,List.length_take,List.length_drop]; omega
  have hpl:(i + (a0.length - j)) < (a0.take i++a0.drop j++a0.drop (i + (a0.length - j))).length:=by rw [hzl]; omega
  have hfin:((a0.take i++a0.drop j++a0.drop (i + (a0.length - j))).take (i + (a0.length - j))++List.replicate ((a0.take i++a0.drop j++a0.drop (i + (a0.length - j))).length - (i + (a0.length - j))) (⟨#[]⟩:ByteArray)).take (i + (a0.length - j)) = a0.take i++a0.drop j:=by
    have hl:(a0.take i++a0.drop j).length = (i + (a0.length - j)):=by rw [List.length_append,List.length_take,List.length_drop]; omega
    rw [List.take_append,List.take_take,Nat.min_self,List.take_left' hl]
    have:(i + (a0.length - j)) - (a0.take i++a0.drop j).length = 0:=by omega
    rw [this,List.take_zero,List.append_nil]
  refine WP.skip<|WP.seq<|rg 3 0<|mv0 rfl rfl<|Dv.lenw (Kd:=strK) (xs:=a0) (v:=v) rfl trivial rfl (mem_at 0 rfl) Tryz.underlying23<|as0 rfl rfl<|.fin<|WP.seq<|dg Tryz.checked.mixed 8 64<|mv0 rfl rfl<|mv0 rfl rfl<|Dv.slpf (Kd:=strK) rfl trivial rfl (mem_at 0 rfl) Tryz.underlying23 Tryz.underlying9 c9 (bdE_nat rfl) (Nat.le_trans hij hj)<|mv0 rfl rfl<|mv0 rfl rfl<|Dv.slt (Kd:=strK) (p:=j) rfl trivial rfl (mem_at 0 rfl) Tryz.underlying23 Tryz.underlying9 c9 (bdE_nat rfl) hj<|Dv.apt (Kd:=strK) (jj:=0) rfl trivial rfl rfl rfl Tryz.underlying23 Tryz.underlying23 Tryz.underlying9 c9 ⟨hlt,hj⟩ (fun _=>pend_bits (by kernel_rfl))<|as0 rfl rfl<|.fin ?_
  refine WP.seq<|rg 6 32<|mv0 rfl rfl<|mv0 rfl rfl<|Dv.lenp (Kd:=strK) (xs:=(a0.take i++a0.drop j++a0.drop (i + (a0.length - j)))) rfl trivial rfl (mem_at 0 rfl) Tryz.underlying23<|mv0 rfl rfl<|Dv.slpt (Kd:=strK) (xs:=(a0.take i++a0.drop j++a0.drop (i + (a0.length - j)))) (p:=(i + (a0.length - j))) (q:=a0.length) rfl trivial rfl (mem_at 0 rfl) Tryz.underlying23 Tryz.underlying9 c9 (bdE_nat rfl) (bdE_nat rfl) (by omega) (Nat.le_of_eq hzl.symm)<|Dv.clrt (Kd:=strK) (jj:=0) (⟨#[]⟩:ByteArray) rfl trivial ((show opv _ _ = some (eq (tlv _ v a0.length (i + (a0.length - j)))) from rfl).trans (congrArg (fun z=>some (eq (tlv _ v z (i + (a0.length - j))))) hzl.symm)) Tryz.underlying23 z9 rfl rfl (fun u hu=>by simp [Value.cells] at hu; subst hu; rfl) hpl rfl nofun<|.fin<|WP.seq<|rg 2 0<|mv0 rfl rfl<|as0 rfl rfl<|.fin ?_
  refine WP.gh (l':=fun _:Unit=>[own strK (pfv v (i + (a0.length - j))) (a0.take i++a0.drop j)]++F) (gh_of (ok:=fun _=>True) (fun R w h=>by obtain ⟨_,_,h2⟩:=st_cut (m:=(i + (a0.length - j))) 0 rfl (by rw [List.length_append,List.length_take,List.length_replicate]; omega) R w h; rw [hfin] at h2; exact ⟨(),trivial,h2⟩)) (fun _ _=>?_)
  exact WP.retL (fun _ _ h=>h) rfl (⟨pfv v (i + (a0.length - j)),pfv_one hv⟩:OV) trivial (.cons (res_tmp rfl) .nil) rfl (st_sel (L:=[own strK (pfv v (i + (a0.length - j))) (a0.take i++a0.drop j)]) (F:=F) [0] 0 rfl rfl rfl)
theorem delta_Log_Touch.c {k:Nat} {a0:DLog} {a1:ByteArray} {p0_:OV} {r:Int×Int×DLog} (h:delta_Log_Touch.f k a0 a1 = some r):Tr Tryz.prog 99 [eq p0_.1,vS a1] [DLog.O p0_ a0] (γ:=Unit) (fun _=>True) (fun g=>tup [vI r.1,vI r.2.1]) (fun g=>[DLog.O p0_ r.2.2]):=by
 unfold delta_Log_Touch.f at h
 refine tb Tryz.func99 Tryz.ntmps99 h fun R0 F H=>?_
 refine WP.seq<|rg 2 0<|as0 rfl rfl<|as0 rfl rfl<|.fin<|WP.seq<|rg 10 16<|mv0 rfl rfl<|Dv.nilA DLog.nn rfl trivial rfl (mem_at 0 rfl)<|vg (DLog.opn 0 rfl) fun g714 h715=>?_
 refine fp h715 rfl trivial rfl fa141_0<|ld 0 rfl trivial rfl sc82 rfl rfl<|el H fun t716 h717 H=>cx 4 [1,0,2,3] cal80 (clock_Counter_Next.c h717 (p0_:=g714.2.1)) nofun fun _ _=>?_
 refine mv0 rfl rfl<|ex0 rfl trivial rfl rfl<|ex0 rfl trivial rfl rfl<|as0 rfl rfl<|as0 rfl rfl<|.fin<|WP.seq<|WP.seq<|rg 2 0<|mv0 rfl rfl<|bn0 rfl rfl rfl run_ne<|.fin<|cd H rfl (fun _ H=>?_) (fun _ H=>?_)
 ·
  refine WP.seq<|rg 3 0<|mv0 rfl rfl<|as0 rfl rfl<|as0 rfl rfl<|.fin<|wg (DLog.shut (p:=p0_) (m:=(⟨t716.2.2,a0.fkeys,a0.fpos⟩:DLog)) (g714.1,g714.2.1,g714.2.2.1,g714.2.2.2) h715 (pm 4 [1,0,2,3])) fun _ _=>?_
  cases H.out; exact rt i2 rfl () 1 [0] 0 (.cons (res_tmp rfl) (.cons (res_tmp rfl) .nil))
 refine WP.skip<|WP.seqn H id (fun p719:DLog=>[(0,eq p0_.1),(1,vS a1),(6,vI t716.1)]) (fun p719:DLog=>[DLog.O p0_ p719]++F) (fun p719 H=>?_) (fun H=>?_)
 ·
  refine WP.seq<|rg 11 1152<|mv0 rfl rfl<|mv0 rfl rfl<|Dv.nilA DLog.nn rfl trivial rfl (mem_at 0 rfl)<|vg (DLog.opn 0 rfl) fun g720 h721=>?_
  refine fp h721 rfl trivial rfl fa141_1<|ld 0 rfl trivial rfl sc23 rfl rfl<|mv0 rfl rfl<|Dv.lit strK ([a1]:List ByteArray) (css:=[[vS a1]]) rfl trivial Tryz.underlying23 Tryz.underlying9 c9 z9 rfl (by decide) (by decide) rfl ⟨(cells_one (one_eq rfl)),trivial⟩ rfl rfl rfl<|gr H fun g722 H=>ap strK 2 ([a1]:List ByteArray) src_sl Tryz.underlying23 (.inr ⟨_,Tryz.underlying23⟩) inf9 g722 nofun fun v723=>?_
  refine Dv.nilpp h721 rfl trivial rfl<|fp h721 rfl trivial rfl fa141_1<|sx 0 rfl trivial rfl rfl (cells_one one_ov) sz23 rfl rfl rfl nofun ?_
  refine .fin<|WP.seq<|rg 7 64<|mv0 rfl rfl<|Dv.nilpp h721 rfl trivial rfl<|fp h721 rfl trivial rfl fa141_2<|ld 0 rfl trivial rfl sc139 rfl rfl<|mv0 rfl rfl<|mv0 rfl rfl<|Dv.mup (jj:=3) t716.1 rfl trivial rfl rfl rfl rfl Tryz.underlying139 (keyOk_str Tryz.underlying9) nofun<|.fin<|WP.seq<|rg 3 0<|mv0 rfl rfl<|as0 rfl rfl<|as0 rfl rfl<|.fin<|wg (DLog.shut (p:=p0_) (m:=(⟨p719.fat,p719.fkeys++([a1]:List ByteArray),mput p719.fpos a1 t716.1⟩:DLog)) (g720.1,g720.2.1,v723,g720.2.2.2) h721 (pm 4 [0,1,2,3])) fun _ _=>?_
  cases H.out; exact rt i2 rfl () 1 [0] 0 (.cons (res_tmp rfl) (.cons (res_tmp rfl) .nil))
 refine WP.seq<|rg 11 0<|mv0 rfl rfl<|Dv.nilpp h715 rfl trivial rfl<|fp h715 rfl trivial rfl fa141_2<|ld 1 rfl trivial rfl sc139 rfl rfl<|mv0 rfl rfl<|Dv.mlk 0 rfl trivial rfl (mem_at 3 rfl) rfl Tryz.underlying139 (keyOk_str Tryz.underlying9) z3 (fun _=>rfl)<|mv0 rfl rfl<|ex0 rfl trivial rfl rfl<|ex0 rfl trivial rfl rfl<|as0 rfl rfl<|as0 rfl rfl<|.fin<|WP.seq<|rg 1 0<|mv0 rfl rfl<|.fin<|cd H rfl (fun _ H=>?_) (fun _ H=>?_)
 rotate_left
 ·
  refine WP.skip ?_
  have H:=H.out
  refine ng (DLog.shut (p:=p0_) (m:=(⟨t716.2.2,a0.fkeys,a0.fpos⟩:DLog)) (g714.1,g714.2.1,g714.2.2.1,g714.2.2.2) h715 (pm 4 [1,0,2,3])) fun _ _=>?_
  exact jn (⟨t716.2.2,a0.fkeys,a0.fpos⟩:DLog) H
 refine WP.seq<|rg 7 0<|mv0 rfl rfl<|Dv.nilpp h715 rfl trivial rfl<|fp h715 rfl trivial rfl fa141_1<|ld 1 rfl trivial rfl sc23 rfl rfl<|mv0 rfl rfl<|el H fun t725 h726 H=>cll (B:=[own strK g714.2.2.1.1 a0.fkeys]) 4 [2,0,1,3] cal163 (Pt.lend _ (slices_Index_string.c h726) (.cons (lt_own (mem_at 0 rfl)) (.cons lt_id .nil)) flat_eq) ?_
 refine as0 rfl rfl<|.fin<|rg 12 2304<|mv0 rfl rfl<|mv0 rfl rfl<|Dv.nilpp h715 rfl trivial rfl<|fp h715 rfl trivial rfl fa141_1<|ld 1 rfl trivial rfl sc23 rfl rfl<|mv0 rfl rfl<|mv0 rfl rfl<|bn0 rfl rfl rfl run_add<|el H fun t727 h728 H=>cx 4 [2,0,1,3] cal164 (slices_Delete_string.c h728 (p0_:=g714.2.2.1)) nofun fun g729 _=>?_
 refine Dv.nilpp h715 rfl trivial rfl<|fp h715 rfl trivial rfl fa141_1<|sx 2 rfl trivial rfl rfl (cells_one one_ov) sz23 rfl rfl rfl nofun ?_
 refine .fin ?_
 have H:=H.out
 refine ng (DLog.shut (p:=p0_) (m:=(⟨t716.2.2,t727,a0.fpos⟩:DLog)) (g714.1,g714.2.1,g729,g714.2.2.2) h715 (pm 4 [2,1,0,3])) fun _ _=>?_
 exact jn (⟨t716.2.2,t727,a0.fpos⟩:DLog) H
end Go.Proofs.YtelcbdmigiacpaaGreat
