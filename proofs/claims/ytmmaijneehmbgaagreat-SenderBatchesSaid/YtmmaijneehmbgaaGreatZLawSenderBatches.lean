import Derived.Test.YtmmaijneehmbgaaGreatZWalks3
import Derived.Test.YtmmaijneehmbgaaGreatConQ
import Derived.Test.YtmmaijneehmbgaaGreatConA6
import Derived.Test.YtmmaijneehmbgaaGreatConC1
import Derived.Eval
set_option linter.all false
set_option maxRecDepth 10000
set_option maxHeartbeats 20000000
namespace Go.Proofs.YtmmaijneehmbgaaGreat
open Go Go.Sp
theorem w18_SenderBatches.c {k:Nat} {a0:Int} {r:Bool} (h:w18_SenderBatches.f k a0 = some r):Pt Tryz.prog 5 [vI a0] (vB r):=by
 unfold w18_SenderBatches.f at h
 refine pb Tryz.func5 Tryz.ntmps5 h fun R0 F H=>?_
 refine WP.seq<|rg 1 0<|as0 rfl rfl<|.fin<|WP.seq<|rg 7 81<|el H fun t2428 h2429 H=>cx 0 [] cal25 (w18_open.c h2429) nofun fun g2430 _=>?_
 refine mv0 rfl rfl<|ex0 rfl trivial rfl rfl<|ex0 rfl trivial rfl rfl<|al rfl trivial zc44 nofun fun b2431=>as0 rfl rfl<|sx 0 rfl trivial rfl rfl cA sz44 rfl rfl rfl nofun ?_
 refine .fin<|WP.seq<|rg 2 1<|el H fun t2432 h2433 H=>cx 2 [0,1] cal9 (w18_begin.c h2433) nofun fun g2434 _=>?_
 refine as0 rfl rfl<|.fin<|WP.seq<|WP.seq<|rg 6 0<|mv0 rfl rfl<|Dv.oeq0 (fun _=>VView.nn) rfl trivial rfl rfl Tryz.underlying26 (mem_at 2 rfl)<|mv0 rfl rfl ?_
 rcases bem t2428.1.isNone with c2435 | c2435
 rotate_left
 ·
  have H:=H.ct c2435
  refine Dv.gh (gh_sh 21 c2435 rfl) (fun _ _=>?_)
  refine Dv.gh (gh_sh 22 c2435 rfl) (fun _ _=>?_)
  refine sk rfl rfl<|sk rfl rfl<|pt0 rfl rfl rfl<|.fin<|WP.cond rfl (fun _=>?_) nofun
  refine WP.seq<|rg 1 0<|as0 rfl rfl<|.fin ?_
  cases H.out; exact r3 i2 rfl (.cons (res_tmp rfl) .nil)
 have H:=H.cf c2435
 refine Dv.gh (gh_sh 21 c2435 rfl) (fun _ _=>?_)
 refine Dv.gh (gh_sh 22 c2435 rfl) (fun _ _=>?_)
 refine mvg rfl rfl rfl<|Dv.oeq0 (fun _=>SSnd.nn) rfl (gg rfl) rfl rfl Tryz.underlying24 (mem_at 0 rfl)<|pf0 rfl rfl rfl<|.fin<|cd H rfl (fun _ H=>?_) (fun c2437 H=>?_)
 ·
  refine WP.seq<|wg (opt_some 2 rfl c2435) fun _ _=>?_
  refine rg 1 0<|as0 rfl rfl<|.fin ?_
  cases H.out; exact r3 i2 rfl (.cons (res_tmp rfl) .nil)
 refine wg (opt_some 0 rfl c2437) fun _ _=>?_
 refine WP.skip<|WP.seq<|wg (opt_some 2 rfl c2435) fun _ _=>?_
 refine rg 4 0<|mv0 rfl rfl<|el H fun t2438 h2439 H=>cl rfl cal12 rfl (r01_Around.c h2439)<|bn0 rfl rfl rfl run_add<|as0 rfl rfl<|.fin<|WP.seqn H id (fun p2440:Int×Bool×SSnd=>[(0,vI a0),(2,vB false),(3,eq g2430.1),(5,eq g2434.1),(6,vI (w64 (90 + t2438))),(7,vI p2440.1),(25,vB t2432.isNone),(31,vB p2440.2.1)]) (fun p2440:Int×Bool×SSnd=>[blk b2431 44 (RView.enc t2428.2),VView.O g2430 (t2428.1.getD default),SSnd.O g2434 p2440.2.2]++F) (fun p2440 H=>?_) (fun H=>?_)
 rotate_left
 ·
  refine WP.seq<|rg 1 0<|as0 rfl rfl<|.fin<|WP.block<|wg (sg 3 [2,0,1] 0) fun _ _=>?_
  refine lp (fun j_ (p2486:Int×SSnd)=>w18_SenderBatches.l0 k t2438 j_ p2486.1 p2486.2) (0,t2432.getD default) H (fun p2486=>[(0,vI a0),(2,vB false),(3,eq g2430.1),(5,eq g2434.1),(6,vI (w64 (90 + t2438))),(7,vI p2486.1),(25,vB t2432.isNone)]) (fun p2486=>[blk b2431 44 (RView.enc t2428.2),VView.O g2430 (t2428.1.getD default),SSnd.O g2434 p2486.2]++F) ?_
  rintro j_ ⟨x2471,x2472⟩ H
  rcases j_ with _ | j2485
  ·
   exact (Gets.no H).elim
  replace H:Gets (w18_SenderBatches.l0 k t2438 (j2485 + 1) x2471 x2472) _:=H
  rw [w18_SenderBatches.l0] at H
  refine WP.seq<|WP.seq<|rg 3 0<|mv0 rfl rfl<|mv0 rfl rfl<|bn0 rfl rfl rfl run_lt<|.fin<|cd H rfl (fun _ H=>?_) (fun _ H=>?_)
  rotate_left
  ·
   refine WP.exit ?_
   have H:=H.out
   exact jn (x2471,decide (x2471 < (w64 (90 + t2438))),x2472) H
  refine WP.skip<|WP.seq<|WP.block<|wg (SSnd.opn 2 rfl) fun g2474 h2475=>?_
  refine dg Tryz.checked.mixed 15 16384<|mv0 rfl rfl<|Dv.nilpp h2475 rfl trivial rfl<|fp h2475 rfl trivial rfl fa40_0<|ld 0 rfl trivial rfl sc36 rfl rfl<|mv0 rfl rfl<|el H fun t2476 h2477 H=>cl rfl cal26 rfl (r01_RoomOf.c h2477)<|mv0 rfl rfl<|bn0 rfl rfl rfl (run_rem (by decide))<|el H fun t2478 h2479 H=>cl rfl cal27 rfl (r01_UserOf.c h2479)<|mv0 rfl rfl<|el H fun t2480 h2481 H=>cl rfl cal28 rfl (r01_Decimal.c _ h2481)<|gr H fun g2482 H=>bn0 rfl rfl rfl (run_cat g2482)<|mv0 rfl rfl<|Dv.bld (qs:=[vI 1,vS t2476,vS t2478,vS (⟨#[36,120]⟩:ByteArray),vS ((⟨#[36,116]⟩:ByteArray)++t2480),vB false,vB false,vI 0,vI 0,vI 0,vI x2471]) (css:=[[vI 1],[vS t2476],[vS t2478],[vS (⟨#[36,120]⟩:ByteArray)],[vS ((⟨#[36,116]⟩:ByteArray)++t2480)],[vI x2471]]) rfl trivial Tryz.underlying32 pl32 z32 rfl ⟨(cells_one (one_eq rfl)),⟨(cells_one (one_eq rfl)),⟨(cells_one (one_eq rfl)),⟨(cells_one (one_eq rfl)),⟨(cells_one (one_eq rfl)),⟨(cells_one (one_eq rfl)),trivial⟩⟩⟩⟩⟩⟩ rfl rfl<|el H fun t2483 h2484 H=>cx 6 [1,0,2,3,4,5] cal13 (queue_Queue_Put.c h2484 (p0_:=g2474.2.1)) pC fun _ _=>?_
  refine .fin<|rg 3 0<|mv0 rfl rfl<|bn0 rfl rfl rfl run_add<|as0 rfl rfl<|.fin<|ng (SSnd.shut (p:=g2434) (m:=(⟨t2483.2.2.2,x2472.fself,x2472.fto,x2472.fids,x2472.fair⟩:SSnd)) (g2474.1,g2474.2.1,g2474.2.2.1,g2474.2.2.2) h2475 (pm 6 [1,0,2,3,4,5])) fun _ _=>?_
  refine ng (sg 3 [1,2,0] 0) fun _ _=>?_
  exact bk j2485 (w64 (x2471 + 1),(⟨t2483.2.2.2,x2472.fself,x2472.fto,x2472.fids,x2472.fair⟩:SSnd)) H
 refine WP.seq<|rg 6 0<|mv0 rfl rfl<|Dv.nilA SSnd.nn rfl trivial rfl (mem_at 2 rfl)<|vg (SSnd.opn 2 rfl) fun g2441 h2442=>?_
 refine fp h2442 rfl trivial rfl fa40_0<|ld 0 rfl trivial rfl sc36 rfl rfl<|vg (SQue.opn 1 rfl) fun g2443 h2444=>?_
 refine el H fun t2445 h2446 H=>cll 8 [0,1,2,3,4,5,6,7] cal18 (Tr.weak (queue_Queue_All.c h2446 (b0_:=g2443.1) (v0_0:=g2443.2.1) (v0_1:=g2443.2.2)) (.cons (wk_ptr h2444) .nil)) ?_
 refine as0 rfl rfl<|.fin<|WP.seq<|rg 11 388<|mv0 rfl rfl<|mv0 rfl rfl<|vg (SQue.shut (p:=g2441.2.1) (m:=p2440.2.2.fQueue) (g2443.1,g2443.2.1,g2443.2.2) h2444 (pm 8 [0,1,2,3,4,5,6,7])) fun _ _=>?_
 refine vg (SSnd.shut (p:=g2434) (m:=p2440.2.2) (g2441.1,g2441.2.1,g2441.2.2.1,g2441.2.2.2) h2442 (pm 6 [1,0,2,3,4,5])) fun _ _=>?_
 refine el H fun t2447 h2448 H=>cx 3 [0,2,1] cal15 (sender_Sender_Send.c h2448 (p0_:=g2434) (p1_:=g2430)) nofun fun _ _=>?_
 refine mv0 rfl rfl<|ex0 rfl trivial rfl rfl<|ex0 rfl trivial rfl rfl<|ex0 rfl trivial rfl rfl<|al rfl trivial zc46 nofun fun b2449=>sx 0 rfl trivial rfl rfl cA sz46 rfl rfl rfl nofun ?_
 refine as0 rfl rfl<|as0 rfl rfl<|.fin<|WP.seq<|WP.seq<|dg Tryz.checked.mixed 22 0<|mv0 rfl rfl<|Dv.lenl rfl trivial rfl Tryz.underlying23<|mv0 rfl rfl<|bn0 rfl rfl rfl run_ne<|mv0 rfl rfl ?_
 cases c2450:((t2445.length:Int) != (w64 (90 + t2438)))
 rotate_left
 ·
  have H:=H.ct c2450
  refine sk rfl rfl<|sk rfl rfl<|sk rfl rfl<|sk rfl rfl<|sk rfl rfl<|sk rfl rfl<|pt0 rfl rfl rfl<|mv0 rfl rfl<|sk rfl rfl<|sk rfl rfl<|sk rfl rfl<|sk rfl rfl<|sk rfl rfl<|sk rfl rfl<|sk rfl rfl<|sk rfl rfl<|pt0 rfl rfl rfl<|.fin<|WP.cond rfl (fun _=>?_) nofun
  refine WP.seq<|rg 1 0<|as0 rfl rfl<|.fin ?_
  cases H.out; exact r4 i2 rfl (.cons (res_tmp rfl) .nil)
 have H:=H.cf c2450
 refine fb rfl (gg rfl) rfl fa46_4<|ld 0 rfl (gg rfl) rfl sc23 rfl rfl<|Dv.lenl rfl (gg rfl) rfl Tryz.underlying23<|mvg rfl rfl rfl<|Dv.mini rfl (gg rfl) rfl rfl<|bng rfl rfl rfl rfl run_ne<|pf0 rfl rfl rfl<|mv0 rfl rfl ?_
 cases c2452:((t2447.1.fEdus.length:Int) != (min (w64 (90 + t2438)) 100))
 rotate_left
 ·
  have H:=H.ct c2452
  refine sk rfl rfl<|sk rfl rfl<|sk rfl rfl<|sk rfl rfl<|sk rfl rfl<|sk rfl rfl<|sk rfl rfl<|sk rfl rfl<|pt0 rfl rfl rfl<|.fin<|WP.cond rfl (fun _=>?_) nofun
  refine WP.seq<|rg 1 0<|as0 rfl rfl<|.fin ?_
  cases H.out; exact r4 i2 rfl (.cons (res_tmp rfl) .nil)
 have H:=H.cf c2452
 refine fb rfl (gg rfl) rfl fa46_4<|ld 0 rfl (gg rfl) rfl sc23 rfl rfl<|mvg rfl rfl rfl<|mvg rfl rfl rfl<|Dv.mini rfl (gg rfl) rfl rfl<|gr H fun g2454 H=>Dv.sls rfl (gg rfl) rfl Tryz.underlying23 Tryz.underlying32 c32 bdE_none (bdE_some rfl g2454.1) g2454.2.1 g2454.2.2<|el H fun t2455 h2456 H=>Dv.call rfl (gg rfl) cal16 rfl (r04_SameEdus.c h2456)<|ung rfl rfl rfl (run_not _)<|pf0 rfl rfl rfl<|.fin<|cd H rfl (fun _ H=>?_) (fun _ H=>?_)
 ·
  refine WP.seq<|rg 1 0<|as0 rfl rfl<|.fin ?_
  cases H.out; exact r4 i2 rfl (.cons (res_tmp rfl) .nil)
 refine WP.skip<|WP.seq<|WP.seq<|rg 5 8<|mv0 rfl rfl<|fb rfl trivial rfl fa46_3<|ld 0 rfl trivial rfl sc3 rfl rfl<|el H fun t2458 h2459 H=>cx 4 [1,0,2,3] cal29 (sender_Sender_Ack.c h2459 (p0_:=g2434)) nofun fun _ _=>?_
 refine un0 rfl rfl (run_not _)<|.fin<|cd H rfl (fun _ H=>?_) (fun _ H=>?_)
 ·
  refine WP.seq<|rg 1 0<|as0 rfl rfl<|.fin ?_
  cases H.out; exact r4 i2 rfl (.cons (res_tmp rfl) .nil)
 refine WP.skip<|WP.seq<|rg 11 388<|mv0 rfl rfl<|mv0 rfl rfl<|el H fun t2461 h2462 H=>cx 4 [0,2,1,3] cal15 (sender_Sender_Send.c h2462 (p0_:=g2434) (p1_:=g2430)) nofun fun _ _=>?_
 refine mv0 rfl rfl<|ex0 rfl trivial rfl rfl<|ex0 rfl trivial rfl rfl<|ex0 rfl trivial rfl rfl<|al rfl trivial zc46 nofun fun b2463=>sx 0 rfl trivial rfl rfl cA sz46 rfl rfl rfl nofun ?_
 refine as0 rfl rfl<|as0 rfl rfl<|.fin<|WP.seq<|dg Tryz.checked.mixed 17 0<|mv0 rfl rfl<|mv0 rfl rfl<|bn0 rfl rfl rfl run_gt<|bn0 rfl rfl rfl (run_beq Tryz.underlying4)<|mv0 rfl rfl ?_
 cases c2464:(t2461.2.1 == (decide (100 < (w64 (90 + t2438)))))
 ·
  have H:=H.cf c2464
  refine sk rfl rfl<|sk rfl rfl<|sk rfl rfl<|sk rfl rfl<|sk rfl rfl<|sk rfl rfl<|sk rfl rfl<|pf0 rfl rfl rfl<|mv0 rfl rfl<|sk rfl rfl<|pf0 rfl rfl rfl<|as0 rfl rfl<|.fin ?_
  cases H.out; exact r5 i2 rfl (.cons (res_tmp rfl) .nil)
 have H:=H.ct c2464
 refine fb rfl (gg rfl) rfl fa46_4<|ld 0 rfl (gg rfl) rfl sc23 rfl rfl<|mvg rfl rfl rfl<|mvg rfl rfl rfl<|Dv.mini rfl (gg rfl) rfl rfl<|gr H fun g2465 H=>Dv.sls rfl (gg rfl) rfl Tryz.underlying23 Tryz.underlying32 c32 (bdE_some rfl g2465.1) bdE_none g2465.2.1 g2465.2.2<|el H fun t2466 h2467 H=>Dv.call rfl (gg rfl) cal16 rfl (r04_SameEdus.c h2467)<|pt0 rfl rfl rfl<|mv0 rfl rfl ?_
 cases c2468:t2466
 ·
  have H:=H.cf c2468
  refine sk rfl rfl<|pf0 rfl rfl rfl<|as0 rfl rfl<|.fin ?_
  cases H.out; exact r5 i2 rfl (.cons (res_tmp rfl) .nil)
 have H:=H.ct c2468
 refine el H fun t2469 h2470 H=>Dv.call rfl (gg rfl) cal21 rfl (w18_lives.c h2470)<|pt0 rfl rfl rfl<|as0 rfl rfl<|.fin ?_
 cases H.out; exact r5 i2 rfl (.cons (res_tmp rfl) .nil)
end Go.Proofs.YtmmaijneehmbgaaGreat
