import Derived.Test.YtmmaijneehmbgaaGreatZWalks3
import Derived.Test.YtmmaijneehmbgaaGreatConQ
import Derived.Test.YtmmaijneehmbgaaGreatConA6
import Derived.Eval
set_option linter.all false
set_option maxRecDepth 10000
set_option maxHeartbeats 20000000
namespace Go.Proofs.YtmmaijneehmbgaaGreat
open Go Go.Sp
theorem w18_SenderGates.c {k:Nat} {a0:List GMade} {a1:List GMade} {a2:List Edu} {a3:Int} {r:Bool} (h:w18_SenderGates.f k a0 a1 a2 a3 = some r):Pt Tryz.prog 3 [sl GMade.K a0,sl GMade.K a1,sl Edu.K a2,vI a3] (vB r):=by
 unfold w18_SenderGates.f at h
 refine pb Tryz.func3 Tryz.ntmps3 h fun R0 F H=>?_
 refine WP.seq<|rg 1 0<|as0 rfl rfl<|.fin<|WP.seq<|rg 2 1<|el H fun t2350 h2351 H=>cx 0 [] cal9 (w18_begin.c h2351) nofun fun g2352 _=>?_
 refine as0 rfl rfl<|.fin<|WP.seq<|rg 2 1<|el H fun t2353 h2354 H=>cx 1 [0] cal10 (view_New.c h2354) nofun fun g2355 _=>?_
 refine as0 rfl rfl<|.fin<|WP.seq<|WP.seq<|rg 6 0<|mv0 rfl rfl<|Dv.oeq0 (fun _=>SSnd.nn) rfl trivial rfl rfl Tryz.underlying24 (mem_at 1 rfl)<|mv0 rfl rfl ?_
 rcases bem t2350.isNone with c2356 | c2356
 rotate_left
 ·
  have H:=H.ct c2356
  refine Dv.gh (gh_sh 29 c2356 rfl) (fun _ _=>?_)
  refine Dv.gh (gh_sh 30 c2356 rfl) (fun _ _=>?_)
  refine sk rfl rfl<|sk rfl rfl<|pt0 rfl rfl rfl<|.fin<|WP.cond rfl (fun _=>?_) nofun
  refine WP.seq<|rg 1 0<|as0 rfl rfl<|.fin ?_
  cases H.out; exact r2 i2 rfl (.cons (res_tmp rfl) .nil)
 have H:=H.cf c2356
 refine Dv.gh (gh_sh 29 c2356 rfl) (fun _ _=>?_)
 refine Dv.gh (gh_sh 30 c2356 rfl) (fun _ _=>?_)
 refine mvg rfl rfl rfl<|Dv.peq0 VView.nn rfl (gg rfl) rfl rfl Tryz.underlying26 (mem_at 0 rfl)<|pf0 rfl rfl rfl<|.fin<|WP.cond rfl nofun (fun _=>?_)
 refine WP.skip<|WP.seq<|wg (opt_some 1 rfl c2356) fun _ _=>?_
 refine rg 4 4<|mv0 rfl rfl<|mv0 rfl rfl<|el H fun t2359 h2360 H=>cx 2 [0,1] cal11 (r10_Made.c h2360) nofun fun g2361 _=>?_
 refine as0 rfl rfl<|.fin<|WP.seq<|rg 6 0<|mv0 rfl rfl<|mv0 rfl rfl<|Dv.lenw rfl trivial rfl (mem_at 0 rfl) Tryz.underlying28<|bn0 rfl rfl rfl run_add<|el H fun t2362 h2363 H=>cl rfl cal12 rfl (r01_Around.c h2363)<|as0 rfl rfl<|.fin<|WP.seqn H id (fun p2364:Int×Bool×SSnd=>[(0,sl GMade.K a0),(1,sl GMade.K a1),(2,sl Edu.K a2),(3,vI a3),(8,vB false),(9,eq g2352.1),(10,eq g2355.1),(11,eq g2361.1),(12,vI t2362),(13,vI p2364.1),(33,vB false),(49,vB p2364.2.1)]) (fun p2364:Int×Bool×SSnd=>[own Event.K g2361.1 t2359,SSnd.O g2352 p2364.2.2,VView.O g2355 t2353]++F) (fun p2364 H=>?_) (fun H=>?_)
 rotate_left
 ·
  refine WP.seq<|rg 1 0<|as0 rfl rfl<|.fin<|WP.block<|wg (sg 3 [0,1,2] 0) fun _ _=>?_
  refine lp (fun j_ (p2429:Int×SSnd)=>w18_SenderGates.l1 k a2 j_ p2429.1 p2429.2) (0,t2350.getD default) H (fun p2429=>[(0,sl GMade.K a0),(1,sl GMade.K a1),(2,sl Edu.K a2),(3,vI a3),(8,vB false),(9,eq g2352.1),(10,eq g2355.1),(11,eq g2361.1),(12,vI t2362),(13,vI p2429.1),(33,vB false)]) (fun p2429=>[own Event.K g2361.1 t2359,SSnd.O g2352 p2429.2,VView.O g2355 t2353]++F) ?_
  rintro j_ ⟨x2416,x2417⟩ H
  rcases j_ with _ | j2428
  ·
   exact (Gets.no H).elim
  replace H:Gets (w18_SenderGates.l1 k a2 (j2428 + 1) x2416 x2417) _:=H
  rw [w18_SenderGates.l1] at H
  refine WP.seq<|WP.seq<|rg 8 0<|mv0 rfl rfl<|mv0 rfl rfl<|Dv.lenl rfl trivial rfl Tryz.underlying23<|bn0 rfl rfl rfl run_lt<|mv0 rfl rfl ?_
  rcases bem (decide (x2416 < (a2.length:Int))) with c2418 | c2418
  ·
   have H:=H.cf c2418
   refine Dv.gh (gh_sh 45 c2418 rfl) (fun _ _=>?_)
   refine Dv.gh (gh_sh 46 c2418 rfl) (fun _ _=>?_)
   refine sk rfl rfl<|sk rfl rfl<|pf0 rfl rfl rfl<|.fin<|WP.cond rfl nofun (fun _=>?_)
   refine WP.exit ?_
   have H:=H.out
   exact jn (x2416,false,x2417) H
  have H:=H.ct c2418
  refine Dv.gh (gh_sh 45 c2418 rfl) (fun _ _=>?_)
  refine Dv.gh (gh_sh 46 c2418 rfl) (fun _ _=>?_)
  refine mvg rfl rfl rfl<|bng rfl rfl rfl rfl run_lt<|pt0 rfl rfl rfl<|.fin<|cd H rfl (fun _ H=>?_) (fun _ H=>?_)
  rotate_left
  ·
   refine WP.exit ?_
   have H:=H.out
   exact jn (x2416,decide (x2416 < 8),x2417) H
  refine WP.skip<|WP.seq<|WP.block<|wg (SSnd.opn 1 rfl) fun g2420 h2421=>?_
  refine dg Tryz.checked.mixed 10 512<|mv0 rfl rfl<|Dv.nilpp h2421 rfl trivial rfl<|fp h2421 rfl trivial rfl fa40_0<|ld 0 rfl trivial rfl sc36 rfl rfl<|mv0 rfl rfl<|mv0 rfl rfl<|gr H fun g2422 H=>Dv.ixr rfl trivial rfl rfl Tryz.underlying23 Tryz.underlying32 c32 g2422.1 g2422.2<|ldsR rfl trivial rfl sg32 rfl<|el H fun t2423 h2424 H=>cl rfl cal14 rfl (r03_Public.c h2424)<|el H fun t2425 h2426 H=>cx 6 [1,0,2,3,4,5] cal13 (queue_Queue_Put.c h2426 (p0_:=g2420.2.1)) pC fun _ _=>?_
  refine .fin<|rg 3 0<|mv0 rfl rfl<|bn0 rfl rfl rfl run_add<|as0 rfl rfl<|.fin<|ng (SSnd.shut (p:=g2352) (m:=(⟨t2425.2.2.2,x2417.fself,x2417.fto,x2417.fids,x2417.fair⟩:SSnd)) (g2420.1,g2420.2.1,g2420.2.2.1,g2420.2.2.2) h2421 (pm 6 [1,0,2,3,4,5])) fun _ _=>?_
  refine ng (sg 3 [1,0,2] 0) fun _ _=>?_
  exact bk j2428 (w64 (x2416 + 1),(⟨t2425.2.2.2,x2417.fself,x2417.fto,x2417.fids,x2417.fair⟩:SSnd)) H
 refine WP.seq<|rg 1 1<|al rfl trivial zc44 nofun fun b2365=>.fin<|WP.seqr H id (fun p2366:Int×Bool×(List RDag)×SSnd×VView=>[(0,sl GMade.K a0),(1,sl GMade.K a1),(2,sl Edu.K a2),(3,vI a3),(8,vB false),(9,eq g2352.1),(10,eq g2355.1),(11,eq g2361.1),(12,vI t2362),(13,vI p2364.1),(14,eq (.pointer (some ⟨b2365,0,none⟩))),(15,vI p2366.1),(33,vB false),(49,vB p2364.2.1),(65,vB p2366.2.1)]) (fun p2366:Int×Bool×(List RDag)×SSnd×VView=>[blk b2365 44 [sl RDag.K p2366.2.2.1],own Event.K g2361.1 t2359,SSnd.O g2352 p2366.2.2.2.1,VView.O g2355 p2366.2.2.2.2]++F) (fun p2366 H=>?_) (fun H=>?_)
 ·
  refine WP.seq<|rg 11 388<|mv0 rfl rfl<|mv0 rfl rfl<|el H fun t2367 h2368 H=>cx 4 [2,3,0,1] cal15 (sender_Sender_Send.c h2368 (p0_:=g2352) (p1_:=g2355)) nofun fun _ _=>?_
  refine mv0 rfl rfl<|ex0 rfl trivial rfl rfl<|ex0 rfl trivial rfl rfl<|ex0 rfl trivial rfl rfl<|al rfl trivial zc46 nofun fun b2369=>sx 0 rfl trivial rfl rfl cA sz46 rfl rfl rfl nofun ?_
  refine as0 rfl rfl<|as0 rfl rfl<|.fin<|WP.seq<|dg Tryz.checked.mixed 8 0<|fb rfl trivial rfl fa46_4<|ld 0 rfl trivial rfl sc23 rfl rfl<|lds 3 rfl trivial rfl sg44 rfl rfl<|fb rfl trivial rfl fa46_4<|ld 0 rfl trivial rfl sc23 rfl rfl<|el H fun t2370 h2371 H=>cl rfl cal17 rfl (r16_Choose.c h2371)<|el H fun t2372 h2373 H=>cl rfl cal16 rfl (r04_SameEdus.c h2373)<|as0 rfl rfl<|.fin<|WP.seq<|rg 17 0<|mv0 rfl rfl<|bn0 rfl rfl rfl run_eq<|mv0 rfl rfl ?_
  rcases bem (t2367.2.2.1 == 0) with c2374 | c2374
  ·
   have H:=H.cf c2374
   refine Dv.gh (gh_sh 128 c2374 rfl) (fun _ _=>?_)
   refine Dv.gh (gh_sh 129 c2374 rfl) (fun _ _=>?_)
   refine sk rfl rfl<|pf0 rfl rfl rfl<|mv0 rfl rfl<|sk rfl rfl<|sk rfl rfl<|sk rfl rfl<|sk rfl rfl<|sk rfl rfl<|sk rfl rfl<|pf0 rfl rfl rfl<|mv0 rfl rfl<|sk rfl rfl<|pf0 rfl rfl rfl<|as0 rfl rfl<|.fin ?_
   cases H.out; exact r5 i2 rfl (.cons (res_tmp rfl) .nil)
  have H:=H.ct c2374
  refine Dv.gh (gh_sh 128 c2374 rfl) (fun _ _=>?_)
  refine Dv.gh (gh_sh 129 c2374 rfl) (fun _ _=>?_)
  refine mvg rfl rfl rfl<|pt0 rfl rfl rfl<|mv0 rfl rfl ?_
  rcases bem t2372 with c2375 | c2375
  ·
   have H:=H.cf c2375
   refine Dv.gh (gh_sh 126 c2375 rfl) (fun _ _=>?_)
   refine Dv.gh (gh_sh 25 c2375 rfl) (fun _ _=>?_)
   refine Dv.gh (gh_sh 130 c2375 rfl) (fun _ _=>?_)
   refine Dv.gh (gh_sh 131 c2375 rfl) (fun _ _=>?_)
   refine Dv.gh (gh_sh 132 c2375 rfl) (fun _ _=>?_)
   refine sk rfl rfl<|sk rfl rfl<|sk rfl rfl<|sk rfl rfl<|sk rfl rfl<|sk rfl rfl<|pf0 rfl rfl rfl<|mv0 rfl rfl<|sk rfl rfl<|pf0 rfl rfl rfl<|as0 rfl rfl<|.fin ?_
   cases H.out; exact r5 i2 rfl (.cons (res_tmp rfl) .nil)
  have H:=H.ct c2375
  refine Dv.gh (gh_sh 126 c2375 rfl) (fun _ _=>?_)
  refine Dv.gh (gh_sh 25 c2375 rfl) (fun _ _=>?_)
  refine Dv.gh (gh_sh 130 c2375 rfl) (fun _ _=>?_)
  refine Dv.gh (gh_sh 131 c2375 rfl) (fun _ _=>?_)
  refine Dv.gh (gh_sh 132 c2375 rfl) (fun _ _=>?_)
  refine mvg rfl rfl rfl<|fb rfl (gg rfl) rfl fa46_4<|ld 0 rfl (gg rfl) rfl sc23 rfl rfl<|Dv.lenl rfl (gg rfl) rfl Tryz.underlying23<|bng rfl rfl rfl rfl run_gt<|bng rfl rfl rfl rfl (run_beq Tryz.underlying4)<|pt0 rfl rfl rfl<|mv0 rfl rfl ?_
  rcases bem (t2367.2.1 == (decide (0 < (t2367.1.fEdus.length:Int)))) with c2376 | c2376
  ·
   have H:=H.cf c2376
   refine Dv.gh (gh_sh 138 c2376 rfl) (fun _ _=>?_)
   refine Dv.gh (gh_sh 139 c2376 rfl) (fun _ _=>?_)
   refine Dv.gh (gh_sh 140 c2376 rfl) (fun _ _=>?_)
   refine sk rfl rfl<|pf0 rfl rfl rfl<|as0 rfl rfl<|.fin ?_
   cases H.out; exact r5 i2 rfl (.cons (res_tmp rfl) .nil)
  have H:=H.ct c2376
  refine Dv.gh (gh_sh 138 c2376 rfl) (fun _ _=>?_)
  refine Dv.gh (gh_sh 139 c2376 rfl) (fun _ _=>?_)
  refine Dv.gh (gh_sh 140 c2376 rfl) (fun _ _=>?_)
  refine el H fun t2377 h2378 H=>Dv.call rfl (gg rfl) cal21 rfl (w18_lives.c h2378)<|pt0 rfl rfl rfl<|as0 rfl rfl<|.fin ?_
  cases H.out; exact r5 i2 rfl (.cons (res_tmp rfl) .nil)
 refine WP.seq<|rg 1 0<|as0 rfl rfl<|.fin<|WP.block<|WP.gh (gh_wk (E':=[(0,sl GMade.K a0),(1,sl GMade.K a1),(2,sl Edu.K a2),(3,vI a3),(8,vB false),(9,eq g2352.1),(10,eq g2355.1),(11,eq g2361.1),(12,vI t2362),(13,vI p2364.1),(14,eq (.pointer (some ⟨b2365,0,none⟩))),(15,vI 0),(33,vB false),(49,vB p2364.2.1)]) (l':=[blk b2365 44 [sl RDag.K ([]:List RDag)],own Event.K g2361.1 t2359,SSnd.O g2352 p2364.2.2,VView.O g2355 t2353]++F) (wke_cons rfl wk_id (wke_cons rfl wk_id (wke_cons rfl wk_id (wke_cons rfl wk_id (wke_cons rfl wk_id (wke_cons rfl wk_id (wke_cons rfl wk_id (wke_cons rfl wk_id (wke_cons rfl wk_id (wke_cons rfl wk_id (wke_cons rfl wk_id (wke_cons rfl wk_id (wke_cons rfl wk_id (wke_cons rfl wk_id wke_nil)))))))))))))) (all2_app (.cons (wka_blk (.cons wk_nil .nil)) (.cons wka_id (.cons wka_id (.cons wka_id .nil)))) fun _=>wka_id)) (fun _ _=>?_)
 refine wg (sg 4 [0,1,2,3] 0) fun _ _=>?_
 refine lp (fun j_ (p2415:Int×(List RDag)×SSnd×VView)=>w18_SenderGates.l0 k t2359 t2362 j_ p2415.1 p2415.2.1 p2415.2.2.1 p2415.2.2.2) (0,([]:List RDag),p2364.2.2,t2353) H (fun p2415=>[(0,sl GMade.K a0),(1,sl GMade.K a1),(2,sl Edu.K a2),(3,vI a3),(8,vB false),(9,eq g2352.1),(10,eq g2355.1),(11,eq g2361.1),(12,vI t2362),(13,vI p2364.1),(14,eq (.pointer (some ⟨b2365,0,none⟩))),(15,vI p2415.1),(33,vB false),(49,vB p2364.2.1)]) (fun p2415=>[blk b2365 44 [sl RDag.K p2415.2.1],own Event.K g2361.1 t2359,SSnd.O g2352 p2415.2.2.1,VView.O g2355 p2415.2.2.2]++F) ?_
 rintro j_ ⟨x2379,x2380,x2381,x2382⟩ H
 rcases j_ with _ | j2414
 ·
  exact (Gets.no H).elim
 replace H:Gets (w18_SenderGates.l0 k t2359 t2362 (j2414 + 1) x2379 x2380 x2381 x2382) _:=H
 rw [w18_SenderGates.l0] at H
 refine WP.seq<|WP.seq<|rg 4 0<|mv0 rfl rfl<|mv0 rfl rfl<|Dv.lenw rfl trivial rfl (mem_at 1 rfl) Tryz.underlying28<|bn0 rfl rfl rfl run_lt<|.fin<|cd H rfl (fun _ H=>?_) (fun _ H=>?_)
 rotate_left
 ·
  refine WP.exit ?_
  have H:=H.out
  exact jn (x2379,decide (x2379 < (t2359.length:Int)),x2380,x2381,x2382) H
 refine WP.skip<|WP.seq<|WP.block<|WP.seqr H id (fun p2384:SSnd=>[(0,sl GMade.K a0),(1,sl GMade.K a1),(2,sl Edu.K a2),(3,vI a3),(8,vB false),(9,eq g2352.1),(10,eq g2355.1),(11,eq g2361.1),(12,vI t2362),(13,vI p2364.1),(14,eq (.pointer (some ⟨b2365,0,none⟩))),(15,vI x2379),(33,vB false),(49,vB p2364.2.1),(65,vB (decide (x2379 < (t2359.length:Int)))),(70,vB (x2379 == t2362))]) (fun p2384:SSnd=>[blk b2365 44 [sl RDag.K x2380],SSnd.O g2352 p2384,VView.O g2355 x2382,own Event.K g2361.1 t2359]++F) (fun p2384 H=>?_) (fun H=>?_)
 ·
  refine WP.seq<|rg 6 32<|mv0 rfl rfl<|mv0 rfl rfl<|mv0 rfl rfl<|gr H fun g2385 H=>?_
  have h2386:x2379.toNat < t2359.length:=idx_lt g2385
  refine Dv.ixw rfl trivial rfl (mem_at 3 rfl) rfl Tryz.underlying28 Tryz.underlying55 c55 g2385.1 g2385.2<|Dv.ldws (j:=x2379.toNat) (f:=0) rfl trivial rfl (mem_at 3 rfl) h2386 Tryz.underlying55 rfl c55 (Nat.le_of_ble_eq_true rfl)<|el H fun t2387 h2388 H=>cx 4 [2,0,1,3] cal19 (view_View_Add.c h2388 (p0_:=g2355)) nofun fun _ _=>?_
  refine .fin<|WP.seq<|dg Tryz.checked.mixed 12 1536<|lds 1 rfl trivial rfl sg44 rfl rfl<|mv0 rfl rfl<|mv0 rfl rfl<|gr H fun g2389 H=>?_
  have h2390:x2379.toNat < t2359.length:=idx_lt g2389
  refine Dv.ixw rfl trivial rfl (mem_at 3 rfl) rfl Tryz.underlying28 Tryz.underlying55 c55 g2389.1 g2389.2<|Dv.ldws (j:=x2379.toNat) (f:=0) rfl trivial rfl (mem_at 3 rfl) h2390 Tryz.underlying55 rfl c55 (Nat.le_of_ble_eq_true rfl)<|el H fun t2391 h2392 H=>cl rfl cal20 rfl (r10_Add.c h2392)<|mv0 rfl rfl<|ex0 rfl trivial rfl rfl<|ex0 rfl trivial rfl rfl<|al rfl trivial zc44 (fun _=>(pend_in (fun _=>trivial) (pend_in (fun _=>trivial) (pend_in (fun _=>trivial) (pend_in (fun _=>trivial) (pend_in (fun _=>(mem_at 4 rfl)) (pend_in (fun _=>(mem_at 4 rfl)) (pend_in (fun _=>trivial) (pend_in (fun _=>trivial) (pend_in (fun _=>(mem_at 2 rfl)) pend_nil)))))))))) fun b2393=>sx 0 rfl trivial rfl rfl cA sz44 rfl rfl rfl (fun _=>(pend_in (fun _=>trivial) (pend_by (by kernel_rfl) (pend_by (by kernel_rfl) (pend_by (by kernel_rfl) (pend_by (by kernel_rfl) (pend_by (by kernel_rfl) (pend_by (by kernel_rfl) (pend_by (by kernel_rfl) (pend_by (by kernel_rfl) pend_nil)))))))))) ?_
  refine as0 rfl rfl<|.fin<|rg 2 2<|lds 0 rfl trivial rfl sg44 rfl rfl<|sx 2 rfl trivial rfl rfl cA sz44 rfl rfl rfl nofun ?_
  refine .fin<|rg 3 0<|mv0 rfl rfl<|bn0 rfl rfl rfl run_add<|as0 rfl rfl<|.fin<|ng (sg 5 [0,2,4,3,1] 1) fun _ _=>?_
  exact bk j2414 (w64 (x2379 + 1),t2391.1.fD,p2384,t2387.2) H
 refine WP.seq<|rg 3 0<|mv0 rfl rfl<|mv0 rfl rfl<|bn0 rfl rfl rfl run_eq<|.fin<|cd H rfl (fun _ H=>?_) (fun _ H=>?_)
 rotate_left
 ·
  refine WP.skip ?_
  have H:=H.out
  refine ng (sg 4 [0,2,3,1] 0) fun _ _=>?_
  exact jn x2381 H
 refine WP.seq<|rg 11 388<|mv0 rfl rfl<|mv0 rfl rfl<|el H fun t2395 h2396 H=>cx 4 [2,3,0,1] cal15 (sender_Sender_Send.c h2396 (p0_:=g2352) (p1_:=g2355)) nofun fun _ _=>?_
 refine mv0 rfl rfl<|ex0 rfl trivial rfl rfl<|ex0 rfl trivial rfl rfl<|ex0 rfl trivial rfl rfl<|al rfl trivial zc46 nofun fun b2397=>sx 0 rfl trivial rfl rfl cA sz46 rfl rfl rfl nofun ?_
 refine as0 rfl rfl<|as0 rfl rfl<|.fin<|WP.seq<|WP.seq<|dg Tryz.checked.mixed 8 0<|fb rfl trivial rfl fa46_4<|ld 0 rfl trivial rfl sc23 rfl rfl<|lds 3 rfl trivial rfl sg44 rfl rfl<|fb rfl trivial rfl fa46_4<|ld 0 rfl trivial rfl sc23 rfl rfl<|el H fun t2398 h2399 H=>cl rfl cal17 rfl (r16_Choose.c h2399)<|el H fun t2400 h2401 H=>cl rfl cal16 rfl (r04_SameEdus.c h2401)<|un0 rfl rfl (run_not _)<|.fin<|cd H rfl (fun _ H=>?_) (fun _ H=>?_)
 ·
  refine WP.seq<|rg 1 0<|as0 rfl rfl<|.fin ?_
  have H:=H.outr
  have H:=H.outr
  cases H.out; exact r5 i2 rfl (.cons (res_tmp rfl) .nil)
 refine WP.skip<|WP.seq<|rg 6 0<|mv0 rfl rfl<|Dv.nilA SSnd.nn rfl trivial rfl (mem_at 1 rfl)<|vg (SSnd.opn 1 rfl) fun g2403 h2404=>?_
 refine fp h2404 rfl trivial rfl fa40_0<|ld 0 rfl trivial rfl sc36 rfl rfl<|vg (SQue.opn 1 rfl) fun g2405 h2406=>?_
 refine el H fun t2407 h2408 H=>cll 10 [0,1,2,3,4,5,6,7,8,9] cal18 (Tr.weak (queue_Queue_All.c h2408 (b0_:=g2405.1) (v0_0:=g2405.2.1) (v0_1:=g2405.2.2)) (.cons (wk_ptr h2406) .nil)) ?_
 refine as0 rfl rfl<|.fin<|WP.seq<|rg 6 0<|mv0 rfl rfl<|lds 8 rfl trivial rfl sg44 rfl rfl<|mv0 rfl rfl<|el H fun t2409 h2410 H=>cl rfl cal17 rfl (r16_Choose.c h2410)<|el H fun t2411 h2412 H=>cl rfl cal16 rfl (r04_SameEdus.c h2412)<|un0 rfl rfl (run_not _)<|.fin<|cd H rfl (fun _ H=>?_) (fun _ H=>?_)
 rotate_left
 ·
  refine WP.skip ?_
  have H:=H.out
  refine ng (SQue.shut (p:=g2403.2.1) (m:=t2395.2.2.2.fQueue) (g2405.1,g2405.2.1,g2405.2.2) h2406 (pm 10 [0,1,2,3,4,5,6,7,8,9])) fun _ _=>?_
  refine ng (SSnd.shut (p:=g2352) (m:=t2395.2.2.2) (g2403.1,g2403.2.1,g2403.2.2.1,g2403.2.2.2) h2404 (pm 8 [1,0,2,3,4,5,6,7])) fun _ _=>?_
  refine ng (sg 5 [1,3,0,2,4] 1) fun _ _=>?_
  exact jn t2395.2.2.2 H
 refine WP.seq<|rg 1 0<|as0 rfl rfl<|.fin<|wg (SQue.shut (p:=g2403.2.1) (m:=t2395.2.2.2.fQueue) (g2405.1,g2405.2.1,g2405.2.2) h2406 (pm 10 [0,1,2,3,4,5,6,7,8,9])) fun _ _=>?_
 refine wg (SSnd.shut (p:=g2352) (m:=t2395.2.2.2) (g2403.1,g2403.2.1,g2403.2.2.1,g2403.2.2.2) h2404 (pm 8 [1,0,2,3,4,5,6,7])) fun _ _=>?_
 have H:=H.outr
 have H:=H.outr
 cases H.out; exact r5 i2 rfl (.cons (res_tmp rfl) .nil)
end Go.Proofs.YtmmaijneehmbgaaGreat
