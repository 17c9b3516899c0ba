import Derived.Test.YtmmaijneehmbgaaGreatZWalks3
import Derived.Test.YtmmaijneehmbgaaGreatConQ
import Derived.Test.YtmmaijneehmbgaaGreatConA6
import Derived.Eval
set_option linter.all false
set_option maxRecDepth 10000
set_option maxHeartbeats 20000000
namespace Go.Proofs.YtmmaijneehmbgaaGreat
open Go Go.Sp
theorem w18_SenderNews.c {k:Nat} {a0:ByteArray} {a1:ByteArray} {a2:Int} {a3:Int} {r:Bool} (h:w18_SenderNews.f k a0 a1 a2 a3 = some r):Pt Tryz.prog 4 [vS a0,vS a1,vI a2,vI a3] (vB r):=by
 unfold w18_SenderNews.f at h
 refine pb Tryz.func4 Tryz.ntmps4 h fun R0 F H=>?_
 refine WP.seq<|rg 1 0<|as0 rfl rfl<|.fin<|WP.seq<|rg 4 0<|mv0 rfl rfl<|el H fun t2491 h2492 H=>cl rfl cal22 rfl (r01_Few.c h2492)<|Dv.lit strK ([t2491,(⟨#[115,49]⟩:ByteArray),(⟨#[115,49]⟩:ByteArray),(⟨#[115,49]⟩:ByteArray),(⟨#[115,50]⟩:ByteArray)]:List ByteArray) (css:=[[vS t2491],[vS (⟨#[115,49]⟩:ByteArray)],[vS (⟨#[115,49]⟩:ByteArray)],[vS (⟨#[115,49]⟩:ByteArray)],[vS (⟨#[115,50]⟩:ByteArray)]]) rfl trivial Tryz.underlying53 Tryz.underlying9 c9 z9 rfl (by decide) (by decide) rfl ⟨(cells_one (one_eq rfl)),⟨(cells_one (one_eq rfl)),⟨(cells_one (one_eq rfl)),⟨(cells_one (one_eq rfl)),⟨(cells_one (one_eq rfl)),trivial⟩⟩⟩⟩⟩ rfl rfl rfl<|as0 rfl rfl<|.fin<|WP.seq<|rg 6 0<|mv0 rfl rfl<|el H fun t2493 h2494 H=>cl rfl cal22 rfl (r01_Few.c h2494)<|mv0 rfl rfl<|el H fun t2495 h2496 H=>cl rfl cal22 rfl (r01_Few.c h2496)<|Dv.lit strK ([t2493,t2495,(⟨#[115,50]⟩:ByteArray),(⟨#[115,50]⟩:ByteArray),(⟨#[115,50]⟩:ByteArray)]:List ByteArray) (css:=[[vS t2493],[vS t2495],[vS (⟨#[115,50]⟩:ByteArray)],[vS (⟨#[115,50]⟩:ByteArray)],[vS (⟨#[115,50]⟩:ByteArray)]]) rfl trivial Tryz.underlying53 Tryz.underlying9 c9 z9 rfl (by decide) (by decide) rfl ⟨(cells_one (one_eq rfl)),⟨(cells_one (one_eq rfl)),⟨(cells_one (one_eq rfl)),⟨(cells_one (one_eq rfl)),⟨(cells_one (one_eq rfl)),trivial⟩⟩⟩⟩⟩ rfl rfl rfl<|as0 rfl rfl<|.fin<|WP.seq<|rg 4 0<|mv0 rfl rfl<|mv0 rfl rfl<|Dv.lit (intK .i64) ([a2,5,a2,5,5]:List Int) (css:=[[vI a2],[vI 5],[vI a2],[vI 5],[vI 5]]) rfl trivial Tryz.underlying61 Tryz.underlying3 c3 z3 rfl (by decide) (by decide) rfl ⟨(cells_one (one_eq rfl)),⟨(cells_one (one_eq rfl)),⟨(cells_one (one_eq rfl)),⟨(cells_one (one_eq rfl)),⟨(cells_one (one_eq rfl)),trivial⟩⟩⟩⟩⟩ rfl rfl rfl<|as0 rfl rfl<|.fin<|WP.seq<|rg 4 0<|mv0 rfl rfl<|mv0 rfl rfl<|Dv.lit (intK .i64) ([a3,0,0,a3,0]:List Int) (css:=[[vI a3],[vI 0],[vI 0],[vI a3],[vI 0]]) rfl trivial Tryz.underlying61 Tryz.underlying3 c3 z3 rfl (by decide) (by decide) rfl ⟨(cells_one (one_eq rfl)),⟨(cells_one (one_eq rfl)),⟨(cells_one (one_eq rfl)),⟨(cells_one (one_eq rfl)),⟨(cells_one (one_eq rfl)),trivial⟩⟩⟩⟩⟩ rfl rfl rfl<|as0 rfl rfl<|.fin<|WP.seqr H id (fun p2497:Int×Bool=>[(0,vS a0),(1,vS a1),(2,vI a2),(3,vI a3),(8,vB false),(9,sl strK ([t2491,(⟨#[115,49]⟩:ByteArray),(⟨#[115,49]⟩:ByteArray),(⟨#[115,49]⟩:ByteArray),(⟨#[115,50]⟩:ByteArray)]:List ByteArray)),(10,sl strK ([t2493,t2495,(⟨#[115,50]⟩:ByteArray),(⟨#[115,50]⟩:ByteArray),(⟨#[115,50]⟩:ByteArray)]:List ByteArray)),(11,sl (intK .i64) ([a2,5,a2,5,5]:List Int)),(12,sl (intK .i64) ([a3,0,0,a3,0]:List Int)),(13,vI p2497.1),(40,vB p2497.2)]) (fun p2497:Int×Bool=>F) (fun p2497 H=>?_) (fun H=>?_)
 ·
  refine WP.seq<|rg 7 81<|el H fun t2498 h2499 H=>cx 0 [] cal25 (w18_open.c h2499) nofun fun g2500 _=>?_
  refine mv0 rfl rfl<|ex0 rfl trivial rfl rfl<|ex0 rfl trivial rfl rfl<|al rfl trivial zc44 nofun fun b2501=>as0 rfl rfl<|sx 0 rfl trivial rfl rfl cA sz44 rfl rfl rfl nofun ?_
  refine .fin<|WP.seq<|rg 2 1<|el H fun t2502 h2503 H=>cx 2 [0,1] cal9 (w18_begin.c h2503) nofun fun g2504 _=>?_
  refine as0 rfl rfl<|.fin<|WP.seq<|WP.seq<|rg 6 0<|mv0 rfl rfl<|Dv.oeq0 (fun _=>VView.nn) rfl trivial rfl rfl Tryz.underlying26 (mem_at 2 rfl)<|mv0 rfl rfl ?_
  rcases bem t2498.1.isNone with c2505 | c2505
  rotate_left
  ·
   have H:=H.ct c2505
   refine Dv.gh (gh_sh 140 c2505 rfl) (fun _ _=>?_)
   refine Dv.gh (gh_sh 141 c2505 rfl) (fun _ _=>?_)
   refine sk rfl rfl<|sk rfl rfl<|pt0 rfl rfl rfl<|.fin<|WP.cond rfl (fun _=>?_) nofun
   refine WP.seq<|rg 1 0<|as0 rfl rfl<|.fin ?_
   cases H.out; exact r3 i2 rfl (.cons (res_tmp rfl) .nil)
  have H:=H.cf c2505
  refine Dv.gh (gh_sh 140 c2505 rfl) (fun _ _=>?_)
  refine Dv.gh (gh_sh 141 c2505 rfl) (fun _ _=>?_)
  refine mvg rfl rfl rfl<|Dv.oeq0 (fun _=>SSnd.nn) rfl (gg rfl) rfl rfl Tryz.underlying24 (mem_at 0 rfl)<|pf0 rfl rfl rfl<|.fin<|cd H rfl (fun _ H=>?_) (fun c2507 H=>?_)
  ·
   refine WP.seq<|wg (opt_some 2 rfl c2505) fun _ _=>?_
   refine rg 1 0<|as0 rfl rfl<|.fin ?_
   cases H.out; exact r3 i2 rfl (.cons (res_tmp rfl) .nil)
  refine wg (opt_some 0 rfl c2507) fun _ _=>?_
  refine WP.skip<|WP.seq<|wg (opt_some 2 rfl c2505) fun _ _=>?_
  refine rg 6 32<|mv0 rfl rfl<|Dv.nilA SSnd.nn rfl trivial rfl (mem_at 1 rfl)<|vg (SSnd.opn 1 rfl) fun g2508 h2509=>?_
  refine fp h2509 rfl trivial rfl fa40_0<|ld 0 rfl trivial rfl sc36 rfl rfl<|Dv.bld (qs:=[vI 3,vS (⟨#[]⟩:ByteArray),vS (⟨#[64,97,58,115,49]⟩:ByteArray),vS (⟨#[]⟩:ByteArray),vS (⟨#[]⟩:ByteArray),vB false,vB false,vI 0,vI 0,vI 0,vI 0]) (css:=[[vI 3],[vS (⟨#[64,97,58,115,49]⟩:ByteArray)]]) rfl trivial Tryz.underlying32 pl32 z32 rfl ⟨(cells_one (one_eq rfl)),⟨(cells_one (one_eq rfl)),trivial⟩⟩ rfl rfl<|el H fun t2510 h2511 H=>cx 6 [1,0,2,3,4,5] cal13 (queue_Queue_Put.c h2511 (p0_:=g2508.2.1)) nofun fun _ _=>?_
  refine .fin<|WP.seq<|rg 11 388<|mv0 rfl rfl<|mv0 rfl rfl<|vg (SSnd.shut (p:=g2504) (m:=(⟨t2510.2.2.2,(t2502.getD default).fself,(t2502.getD default).fto,(t2502.getD default).fids,(t2502.getD default).fair⟩:SSnd)) (g2508.1,g2508.2.1,g2508.2.2.1,g2508.2.2.2) h2509 (pm 6 [1,0,2,3,4,5])) fun _ _=>?_
  refine el H fun t2512 h2513 H=>cx 3 [0,1,2] cal15 (sender_Sender_Send.c h2513 (p0_:=g2504) (p1_:=g2500)) nofun fun _ _=>?_
  refine mv0 rfl rfl<|ex0 rfl trivial rfl rfl<|ex0 rfl trivial rfl rfl<|ex0 rfl trivial rfl rfl<|al rfl trivial zc46 nofun fun b2514=>sx 0 rfl trivial rfl rfl cA sz46 rfl rfl rfl nofun ?_
  refine as0 rfl rfl<|as0 rfl rfl<|.fin<|WP.seq<|rg 24 0<|mv0 rfl rfl<|un0 rfl rfl (run_not _)<|mv0 rfl rfl ?_
  rcases bem (!t2512.2.1) with c2515 | c2515
  ·
   have H:=H.cf c2515
   refine Dv.gh (gh_sh 159 c2515 rfl) (fun _ _=>?_)
   refine Dv.gh (gh_sh 160 c2515 rfl) (fun _ _=>?_)
   refine sk rfl rfl<|sk rfl rfl<|pf0 rfl rfl rfl<|mv0 rfl rfl<|sk rfl rfl<|sk rfl rfl<|sk rfl rfl<|pf0 rfl rfl rfl<|mv0 rfl rfl<|sk rfl rfl<|sk rfl rfl<|sk rfl rfl<|sk rfl rfl<|sk rfl rfl<|sk rfl rfl<|sk rfl rfl<|pf0 rfl rfl rfl<|mv0 rfl rfl<|sk rfl rfl<|pf0 rfl rfl rfl<|as0 rfl rfl<|.fin ?_
   cases H.out; exact r4 i2 rfl (.cons (res_tmp rfl) .nil)
  have H:=H.ct c2515
  refine Dv.gh (gh_sh 159 c2515 rfl) (fun _ _=>?_)
  refine Dv.gh (gh_sh 160 c2515 rfl) (fun _ _=>?_)
  refine mvg rfl rfl rfl<|bng rfl rfl rfl rfl run_eq<|pt0 rfl rfl rfl<|mv0 rfl rfl ?_
  rcases bem (t2512.2.2.1 == 11) with c2516 | c2516
  ·
   have H:=H.cf c2516
   refine Dv.gh (gh_sh 162 c2516 rfl) (fun _ _=>?_)
   refine Dv.gh (gh_sh 163 c2516 rfl) (fun _ _=>?_)
   refine Dv.gh (gh_sh 164 c2516 rfl) (fun _ _=>?_)
   refine sk rfl rfl<|sk rfl rfl<|sk rfl rfl<|pf0 rfl rfl rfl<|mv0 rfl rfl<|sk rfl rfl<|sk rfl rfl<|sk rfl rfl<|sk rfl rfl<|sk rfl rfl<|sk rfl rfl<|sk rfl rfl<|pf0 rfl rfl rfl<|mv0 rfl rfl<|sk rfl rfl<|pf0 rfl rfl rfl<|as0 rfl rfl<|.fin ?_
   cases H.out; exact r4 i2 rfl (.cons (res_tmp rfl) .nil)
  have H:=H.ct c2516
  refine Dv.gh (gh_sh 162 c2516 rfl) (fun _ _=>?_)
  refine Dv.gh (gh_sh 163 c2516 rfl) (fun _ _=>?_)
  refine Dv.gh (gh_sh 164 c2516 rfl) (fun _ _=>?_)
  refine fb rfl (gg rfl) rfl fa46_3<|ld 0 rfl (gg rfl) rfl sc3 rfl rfl<|bng rfl rfl rfl rfl run_eq<|pt0 rfl rfl rfl<|mv0 rfl rfl ?_
  rcases bem (t2512.1.fID == 0) with c2517 | c2517
  ·
   have H:=H.cf c2517
   refine Dv.gh (gh_sh 167 c2517 rfl) (fun _ _=>?_)
   refine Dv.gh (gh_sh 168 c2517 rfl) (fun _ _=>?_)
   refine Dv.gh (gh_sh 169 c2517 rfl) (fun _ _=>?_)
   refine sk rfl rfl<|sk rfl rfl<|sk rfl rfl<|sk rfl rfl<|sk rfl rfl<|sk rfl rfl<|sk rfl rfl<|pf0 rfl rfl rfl<|mv0 rfl rfl<|sk rfl rfl<|pf0 rfl rfl rfl<|as0 rfl rfl<|.fin ?_
   cases H.out; exact r4 i2 rfl (.cons (res_tmp rfl) .nil)
  have H:=H.ct c2517
  refine Dv.gh (gh_sh 167 c2517 rfl) (fun _ _=>?_)
  refine Dv.gh (gh_sh 168 c2517 rfl) (fun _ _=>?_)
  refine Dv.gh (gh_sh 169 c2517 rfl) (fun _ _=>?_)
  refine mvg rfl rfl rfl<|Dv.nilA SSnd.nn rfl (gg rfl) rfl (mem_at 1 rfl)<|vg (SSnd.opn 1 rfl) fun g2518 h2519=>?_
  refine fp h2519 rfl (gg rfl) rfl fa40_0<|ld 0 rfl (gg rfl) rfl sc36 rfl rfl<|vg (SQue.opn 1 rfl) fun g2520 h2521=>?_
  refine el H fun t2522 h2523 H=>cll 9 [0,1,2,3,4,5,6,7,8] cal18 (Tr.weak (queue_Queue_All.c h2523 (b0_:=g2520.1) (v0_0:=g2520.2.1) (v0_1:=g2520.2.2)) (.cons (wk_ptr h2521) .nil)) ?_
  refine Dv.lenl rfl (gg rfl) rfl Tryz.underlying23<|bng rfl rfl rfl rfl run_eq<|pt0 rfl rfl rfl<|mv0 rfl rfl ?_
  rcases bem ((t2522.length:Int) == 1) with c2524 | c2524
  ·
   have H:=H.cf c2524
   refine Dv.gh (gh_sh 176 c2524 rfl) (fun _ _=>?_)
   refine Dv.gh (gh_sh 177 c2524 rfl) (fun _ _=>?_)
   refine Dv.gh (gh_sh 178 c2524 rfl) (fun _ _=>?_)
   refine sk rfl rfl<|pf0 rfl rfl rfl<|as0 rfl rfl<|.fin<|wg (SQue.shut (p:=g2518.2.1) (m:=t2512.2.2.2.fQueue) (g2520.1,g2520.2.1,g2520.2.2) h2521 (pm 9 [0,1,2,3,4,5,6,7,8])) fun _ _=>?_
   refine wg (SSnd.shut (p:=g2504) (m:=t2512.2.2.2) (g2518.1,g2518.2.1,g2518.2.2.1,g2518.2.2.2) h2519 (pm 7 [1,0,2,3,4,5,6])) fun _ _=>?_
   cases H.out; exact r4 i2 rfl (.cons (res_tmp rfl) .nil)
  have H:=H.ct c2524
  refine Dv.gh (gh_sh 176 c2524 rfl) (fun _ _=>?_)
  refine Dv.gh (gh_sh 177 c2524 rfl) (fun _ _=>?_)
  refine Dv.gh (gh_sh 178 c2524 rfl) (fun _ _=>?_)
  refine el H fun t2525 h2526 H=>Dv.call rfl (gg rfl) cal21 rfl (w18_lives.c h2526)<|pt0 rfl rfl rfl<|as0 rfl rfl<|.fin<|wg (SQue.shut (p:=g2518.2.1) (m:=t2512.2.2.2.fQueue) (g2520.1,g2520.2.1,g2520.2.2) h2521 (pm 9 [0,1,2,3,4,5,6,7,8])) fun _ _=>?_
  refine wg (SSnd.shut (p:=g2504) (m:=t2512.2.2.2) (g2518.1,g2518.2.1,g2518.2.2.1,g2518.2.2.2) h2519 (pm 7 [1,0,2,3,4,5,6])) fun _ _=>?_
  cases H.out; exact r4 i2 rfl (.cons (res_tmp rfl) .nil)
 refine WP.seq<|rg 1 0<|as0 rfl rfl<|.fin<|WP.block<|wg (sg 0 [] 0) fun _ _=>?_
 refine lp (fun j_ (p2592:Int)=>w18_SenderNews.l0 k a2 a3 t2491 t2493 t2495 j_ p2592) 0 H (fun p2592=>[(0,vS a0),(1,vS a1),(2,vI a2),(3,vI a3),(8,vB false),(9,sl strK ([t2491,(⟨#[115,49]⟩:ByteArray),(⟨#[115,49]⟩:ByteArray),(⟨#[115,49]⟩:ByteArray),(⟨#[115,50]⟩:ByteArray)]:List ByteArray)),(10,sl strK ([t2493,t2495,(⟨#[115,50]⟩:ByteArray),(⟨#[115,50]⟩:ByteArray),(⟨#[115,50]⟩:ByteArray)]:List ByteArray)),(11,sl (intK .i64) ([a2,5,a2,5,5]:List Int)),(12,sl (intK .i64) ([a3,0,0,a3,0]:List Int)),(13,vI p2592)]) (fun p2592=>F) ?_
 rintro j_ x2527 H
 rcases j_ with _ | j2591
 ·
  exact (Gets.no H).elim
 replace H:Gets (w18_SenderNews.l0 k a2 a3 t2491 t2493 t2495 (j2591 + 1) x2527) _:=H
 rw [w18_SenderNews.l0] at H
 refine WP.seq<|WP.seq<|rg 2 0<|mv0 rfl rfl<|bn0 rfl rfl rfl run_lt<|.fin<|cd H rfl (fun _ H=>?_) (fun _ H=>?_)
 rotate_left
 ·
  refine WP.exit ?_
  have H:=H.out
  exact jn (x2527,decide (x2527 < 5)) H
 refine WP.skip<|WP.seq<|WP.block<|WP.seq<|dg Tryz.checked.mixed 22 65536<|mv0 rfl rfl<|mv0 rfl rfl<|gr H fun g2529 H=>Dv.ixr rfl trivial rfl rfl Tryz.underlying53 Tryz.underlying9 c9 g2529.1 g2529.2<|ldR rfl trivial rfl sc9 rfl<|mv0 rfl rfl<|mv0 rfl rfl<|gr H fun g2530 H=>Dv.ixr rfl trivial rfl rfl Tryz.underlying53 Tryz.underlying9 c9 g2530.1 g2530.2<|ldR rfl trivial rfl sc9 rfl<|mv0 rfl rfl<|mv0 rfl rfl<|gr H fun g2531 H=>Dv.ixr rfl trivial rfl rfl Tryz.underlying61 Tryz.underlying3 c3 g2531.1 g2531.2<|ldR rfl trivial rfl sc3 rfl<|mv0 rfl rfl<|mv0 rfl rfl<|gr H fun g2532 H=>Dv.ixr rfl trivial rfl rfl Tryz.underlying61 Tryz.underlying3 c3 g2532.1 g2532.2<|ldR rfl trivial rfl sc3 rfl<|el H fun t2533 h2534 H=>cx 0 [] cal23 (sender_New.c h2534) pC fun g2535 _=>?_
 refine mv0 rfl rfl<|ex0 rfl trivial rfl rfl<|ex0 rfl trivial rfl rfl<|as0 rfl rfl<|as0 rfl rfl<|.fin<|WP.seq<|rg 6 0<|mv0 rfl rfl<|mv0 rfl rfl<|gr H fun g2536 H=>Dv.ixr rfl trivial rfl rfl Tryz.underlying53 Tryz.underlying9 c9 g2536.1 g2536.2<|ldR rfl trivial rfl sc9 rfl<|el H fun t2537 h2538 H=>cl rfl cal24 rfl (r01_Server.c h2538)<|as0 rfl rfl<|.fin<|WP.seq<|rg 6 0<|mv0 rfl rfl<|mv0 rfl rfl<|gr H fun g2539 H=>Dv.ixr rfl trivial rfl rfl Tryz.underlying53 Tryz.underlying9 c9 g2539.1 g2539.2<|ldR rfl trivial rfl sc9 rfl<|el H fun t2540 h2541 H=>cl rfl cal24 rfl (r01_Server.c h2541)<|as0 rfl rfl<|.fin<|WP.seq<|dg Tryz.checked.mixed 44 0<|mv0 rfl rfl<|mv0 rfl rfl ?_
 cases c2542:t2537
 ·
  have H:=H.cf c2542
  refine sk rfl rfl<|pf0 rfl rfl rfl<|mv0 rfl rfl<|sk rfl rfl<|sk rfl rfl<|sk rfl rfl<|sk rfl rfl<|sk rfl rfl<|sk rfl rfl<|sk rfl rfl<|sk rfl rfl<|sk rfl rfl<|pf0 rfl rfl rfl<|mv0 rfl rfl<|sk rfl rfl<|sk rfl rfl<|sk rfl rfl<|sk rfl rfl<|sk rfl rfl<|pf0 rfl rfl rfl<|mv0 rfl rfl<|sk rfl rfl<|sk rfl rfl<|sk rfl rfl<|sk rfl rfl<|sk rfl rfl<|pf0 rfl rfl rfl<|mv0 rfl rfl<|sk rfl rfl<|sk rfl rfl<|sk rfl rfl<|sk rfl rfl<|sk rfl rfl<|pf0 rfl rfl rfl<|mv0 rfl rfl<|sk rfl rfl<|sk rfl rfl<|sk rfl rfl<|sk rfl rfl<|sk rfl rfl<|pf0 rfl rfl rfl<|as0 rfl rfl<|.fin<|WP.seq<|rg 18 0<|mv0 rfl rfl<|Dv.one0 (fun _=>SSnd.nn) rfl trivial rfl rfl Tryz.underlying24 (mem_at 0 rfl)<|mv0 rfl rfl<|bn0 rfl rfl rfl (run_bne Tryz.underlying4)<|mv0 rfl rfl ?_
  rcases bem ((!t2533.1.isNone) != false) with c2586 | c2586
  rotate_left
  ·
   have H:=H.ct c2586
   refine Dv.gh (gh_sh 119 c2586 rfl) (fun _ _=>?_)
   refine Dv.gh (gh_sh 120 c2586 rfl) (fun _ _=>?_)
   refine sk rfl rfl<|sk rfl rfl<|sk rfl rfl<|sk rfl rfl<|pt0 rfl rfl rfl<|mv0 rfl rfl<|sk rfl rfl<|sk rfl rfl<|sk rfl rfl<|sku rfl rfl<|sku rfl rfl<|sk rfl rfl<|pt0 rfl rfl rfl<|.fin<|WP.cond rfl (fun _=>?_) nofun
   refine WP.seq<|rg 1 0<|as0 rfl rfl<|.fin ?_
   have H:=H.outr
   cases H.out; exact r1 i2 rfl (.cons (res_tmp rfl) .nil)
  have H:=H.cf c2586
  refine Dv.gh (gh_sh 119 c2586 rfl) (fun _ _=>?_)
  refine Dv.gh (gh_sh 120 c2586 rfl) (fun _ _=>?_)
  refine mvg rfl rfl rfl<|bng rfl rfl rfl rfl run_eq<|mvg rfl rfl rfl<|bng rfl rfl rfl rfl (run_bne Tryz.underlying4)<|pf0 rfl rfl rfl<|mv0 rfl rfl ?_
  rcases bem ((t2533.2 == 0) != false) with c2588 | c2588
  rotate_left
  ·
   have H:=H.ct c2588
   refine Dv.gh (gh_sh 124 c2588 rfl) (fun _ _=>?_)
   refine Dv.gh (gh_sh 125 c2588 rfl) (fun _ _=>?_)
   refine Dv.gh (gh_sh 126 c2588 rfl) (fun _ _=>?_)
   refine sk rfl rfl<|sk rfl rfl<|sk rfl rfl<|sku rfl rfl<|sku rfl rfl<|sk rfl rfl<|pt0 rfl rfl rfl<|.fin<|WP.cond rfl (fun _=>?_) nofun
   refine WP.seq<|rg 1 0<|as0 rfl rfl<|.fin ?_
   have H:=H.outr
   cases H.out; exact r1 i2 rfl (.cons (res_tmp rfl) .nil)
  have H:=H.cf c2588
  refine Dv.gh (gh_sh 124 c2588 rfl) (fun _ _=>?_)
  refine Dv.gh (gh_sh 125 c2588 rfl) (fun _ _=>?_)
  refine Dv.gh (gh_sh 126 c2588 rfl) (fun _ _=>?_)
  refine mvg rfl rfl rfl<|ung rfl rfl rfl (run_not _)<|mvg rfl rfl rfl<|mvg rfl rfl rfl<|bng rfl rfl rfl rfl run_ne<|ptg rfl rfl rfl rfl<|pf0 rfl rfl rfl<|.fin<|cd H rfl (fun _ H=>?_) (fun _ H=>?_)
  ·
   refine WP.seq<|rg 1 0<|as0 rfl rfl<|.fin ?_
   have H:=H.outr
   cases H.out; exact r1 i2 rfl (.cons (res_tmp rfl) .nil)
  refine WP.skip<|rg 3 0<|mv0 rfl rfl<|bn0 rfl rfl rfl run_add<|as0 rfl rfl<|.fin<|ng (sg 1 [0] 1) fun _ _=>?_
  exact bk j2591 (w64 (x2527 + 1)) H
 have H:=H.ct c2542
 refine mvg rfl rfl rfl<|pt0 rfl rfl rfl<|mv0 rfl rfl ?_
 cases c2543:t2540
 ·
  have H:=H.cf c2543
  refine sk rfl rfl<|sk rfl rfl<|sk rfl rfl<|sk rfl rfl<|sk rfl rfl<|sk rfl rfl<|sk rfl rfl<|sk rfl rfl<|sk rfl rfl<|pf0 rfl rfl rfl<|mv0 rfl rfl<|sk rfl rfl<|sk rfl rfl<|sk rfl rfl<|sk rfl rfl<|sk rfl rfl<|pf0 rfl rfl rfl<|mv0 rfl rfl<|sk rfl rfl<|sk rfl rfl<|sk rfl rfl<|sk rfl rfl<|sk rfl rfl<|pf0 rfl rfl rfl<|mv0 rfl rfl<|sk rfl rfl<|sk rfl rfl<|sk rfl rfl<|sk rfl rfl<|sk rfl rfl<|pf0 rfl rfl rfl<|mv0 rfl rfl<|sk rfl rfl<|sk rfl rfl<|sk rfl rfl<|sk rfl rfl<|sk rfl rfl<|pf0 rfl rfl rfl<|as0 rfl rfl<|.fin<|WP.seq<|rg 18 0<|mv0 rfl rfl<|Dv.one0 (fun _=>SSnd.nn) rfl trivial rfl rfl Tryz.underlying24 (mem_at 0 rfl)<|mv0 rfl rfl<|bn0 rfl rfl rfl (run_bne Tryz.underlying4)<|mv0 rfl rfl ?_
  rcases bem ((!t2533.1.isNone) != false) with c2581 | c2581
  rotate_left
  ·
   have H:=H.ct c2581
   refine Dv.gh (gh_sh 119 c2581 rfl) (fun _ _=>?_)
   refine Dv.gh (gh_sh 120 c2581 rfl) (fun _ _=>?_)
   refine sk rfl rfl<|sk rfl rfl<|sk rfl rfl<|sk rfl rfl<|pt0 rfl rfl rfl<|mv0 rfl rfl<|sk rfl rfl<|sk rfl rfl<|sk rfl rfl<|sku rfl rfl<|sku rfl rfl<|sk rfl rfl<|pt0 rfl rfl rfl<|.fin<|WP.cond rfl (fun _=>?_) nofun
   refine WP.seq<|rg 1 0<|as0 rfl rfl<|.fin ?_
   have H:=H.outr
   cases H.out; exact r1 i2 rfl (.cons (res_tmp rfl) .nil)
  have H:=H.cf c2581
  refine Dv.gh (gh_sh 119 c2581 rfl) (fun _ _=>?_)
  refine Dv.gh (gh_sh 120 c2581 rfl) (fun _ _=>?_)
  refine mvg rfl rfl rfl<|bng rfl rfl rfl rfl run_eq<|mvg rfl rfl rfl<|bng rfl rfl rfl rfl (run_bne Tryz.underlying4)<|pf0 rfl rfl rfl<|mv0 rfl rfl ?_
  rcases bem ((t2533.2 == 0) != false) with c2583 | c2583
  rotate_left
  ·
   have H:=H.ct c2583
   refine Dv.gh (gh_sh 124 c2583 rfl) (fun _ _=>?_)
   refine Dv.gh (gh_sh 125 c2583 rfl) (fun _ _=>?_)
   refine Dv.gh (gh_sh 126 c2583 rfl) (fun _ _=>?_)
   refine sk rfl rfl<|sk rfl rfl<|sk rfl rfl<|sku rfl rfl<|sku rfl rfl<|sk rfl rfl<|pt0 rfl rfl rfl<|.fin<|WP.cond rfl (fun _=>?_) nofun
   refine WP.seq<|rg 1 0<|as0 rfl rfl<|.fin ?_
   have H:=H.outr
   cases H.out; exact r1 i2 rfl (.cons (res_tmp rfl) .nil)
  have H:=H.cf c2583
  refine Dv.gh (gh_sh 124 c2583 rfl) (fun _ _=>?_)
  refine Dv.gh (gh_sh 125 c2583 rfl) (fun _ _=>?_)
  refine Dv.gh (gh_sh 126 c2583 rfl) (fun _ _=>?_)
  refine mvg rfl rfl rfl<|ung rfl rfl rfl (run_not _)<|mvg rfl rfl rfl<|mvg rfl rfl rfl<|bng rfl rfl rfl rfl run_ne<|ptg rfl rfl rfl rfl<|pf0 rfl rfl rfl<|.fin<|cd H rfl (fun _ H=>?_) (fun _ H=>?_)
  ·
   refine WP.seq<|rg 1 0<|as0 rfl rfl<|.fin ?_
   have H:=H.outr
   cases H.out; exact r1 i2 rfl (.cons (res_tmp rfl) .nil)
  refine WP.skip<|rg 3 0<|mv0 rfl rfl<|bn0 rfl rfl rfl run_add<|as0 rfl rfl<|.fin<|ng (sg 1 [0] 1) fun _ _=>?_
  exact bk j2591 (w64 (x2527 + 1)) H
 have H:=H.ct c2543
 refine mvg rfl rfl rfl<|mvg rfl rfl rfl<|gr H fun g2544 H=>Dv.ixr rfl (gg rfl) rfl rfl Tryz.underlying53 Tryz.underlying9 c9 g2544.1 g2544.2<|ldR rfl (gg rfl) rfl sc9 rfl<|mvg rfl rfl rfl<|mvg rfl rfl rfl<|gr H fun g2545 H=>Dv.ixr rfl (gg rfl) rfl rfl Tryz.underlying53 Tryz.underlying9 c9 g2545.1 g2545.2<|ldR rfl (gg rfl) rfl sc9 rfl<|bng rfl rfl rfl rfl run_sne<|pt0 rfl rfl rfl<|mv0 rfl rfl ?_
 cases c2546:!decide ((strK.at ([t2491,(⟨#[115,49]⟩:ByteArray),(⟨#[115,49]⟩:ByteArray),(⟨#[115,49]⟩:ByteArray),(⟨#[115,50]⟩:ByteArray)]:List ByteArray) x2527) = (strK.at ([t2493,t2495,(⟨#[115,50]⟩:ByteArray),(⟨#[115,50]⟩:ByteArray),(⟨#[115,50]⟩:ByteArray)]:List ByteArray) x2527))
 ·
  have H:=H.cf c2546
  refine sk rfl rfl<|sk rfl rfl<|sk rfl rfl<|sk rfl rfl<|sk rfl rfl<|pf0 rfl rfl rfl<|mv0 rfl rfl<|sk rfl rfl<|sk rfl rfl<|sk rfl rfl<|sk rfl rfl<|sk rfl rfl<|pf0 rfl rfl rfl<|mv0 rfl rfl<|sk rfl rfl<|sk rfl rfl<|sk rfl rfl<|sk rfl rfl<|sk rfl rfl<|pf0 rfl rfl rfl<|mv0 rfl rfl<|sk rfl rfl<|sk rfl rfl<|sk rfl rfl<|sk rfl rfl<|sk rfl rfl<|pf0 rfl rfl rfl<|as0 rfl rfl<|.fin<|WP.seq<|rg 18 0<|mv0 rfl rfl<|Dv.one0 (fun _=>SSnd.nn) rfl trivial rfl rfl Tryz.underlying24 (mem_at 0 rfl)<|mv0 rfl rfl<|bn0 rfl rfl rfl (run_bne Tryz.underlying4)<|mv0 rfl rfl ?_
  rcases bem ((!t2533.1.isNone) != false) with c2576 | c2576
  rotate_left
  ·
   have H:=H.ct c2576
   refine Dv.gh (gh_sh 119 c2576 rfl) (fun _ _=>?_)
   refine Dv.gh (gh_sh 120 c2576 rfl) (fun _ _=>?_)
   refine sk rfl rfl<|sk rfl rfl<|sk rfl rfl<|sk rfl rfl<|pt0 rfl rfl rfl<|mv0 rfl rfl<|sk rfl rfl<|sk rfl rfl<|sk rfl rfl<|sku rfl rfl<|sku rfl rfl<|sk rfl rfl<|pt0 rfl rfl rfl<|.fin<|WP.cond rfl (fun _=>?_) nofun
   refine WP.seq<|rg 1 0<|as0 rfl rfl<|.fin ?_
   have H:=H.outr
   cases H.out; exact r1 i2 rfl (.cons (res_tmp rfl) .nil)
  have H:=H.cf c2576
  refine Dv.gh (gh_sh 119 c2576 rfl) (fun _ _=>?_)
  refine Dv.gh (gh_sh 120 c2576 rfl) (fun _ _=>?_)
  refine mvg rfl rfl rfl<|bng rfl rfl rfl rfl run_eq<|mvg rfl rfl rfl<|bng rfl rfl rfl rfl (run_bne Tryz.underlying4)<|pf0 rfl rfl rfl<|mv0 rfl rfl ?_
  rcases bem ((t2533.2 == 0) != false) with c2578 | c2578
  rotate_left
  ·
   have H:=H.ct c2578
   refine Dv.gh (gh_sh 124 c2578 rfl) (fun _ _=>?_)
   refine Dv.gh (gh_sh 125 c2578 rfl) (fun _ _=>?_)
   refine Dv.gh (gh_sh 126 c2578 rfl) (fun _ _=>?_)
   refine sk rfl rfl<|sk rfl rfl<|sk rfl rfl<|sku rfl rfl<|sku rfl rfl<|sk rfl rfl<|pt0 rfl rfl rfl<|.fin<|WP.cond rfl (fun _=>?_) nofun
   refine WP.seq<|rg 1 0<|as0 rfl rfl<|.fin ?_
   have H:=H.outr
   cases H.out; exact r1 i2 rfl (.cons (res_tmp rfl) .nil)
  have H:=H.cf c2578
  refine Dv.gh (gh_sh 124 c2578 rfl) (fun _ _=>?_)
  refine Dv.gh (gh_sh 125 c2578 rfl) (fun _ _=>?_)
  refine Dv.gh (gh_sh 126 c2578 rfl) (fun _ _=>?_)
  refine mvg rfl rfl rfl<|ung rfl rfl rfl (run_not _)<|mvg rfl rfl rfl<|mvg rfl rfl rfl<|bng rfl rfl rfl rfl run_ne<|ptg rfl rfl rfl rfl<|pf0 rfl rfl rfl<|.fin<|cd H rfl (fun _ H=>?_) (fun _ H=>?_)
  ·
   refine WP.seq<|rg 1 0<|as0 rfl rfl<|.fin ?_
   have H:=H.outr
   cases H.out; exact r1 i2 rfl (.cons (res_tmp rfl) .nil)
  refine WP.skip<|rg 3 0<|mv0 rfl rfl<|bn0 rfl rfl rfl run_add<|as0 rfl rfl<|.fin<|ng (sg 1 [0] 1) fun _ _=>?_
  exact bk j2591 (w64 (x2527 + 1)) H
 have H:=H.ct c2546
 refine mvg rfl rfl rfl<|mvg rfl rfl rfl<|gr H fun g2547 H=>Dv.ixr rfl (gg rfl) rfl rfl Tryz.underlying61 Tryz.underlying3 c3 g2547.1 g2547.2<|ldR rfl (gg rfl) rfl sc3 rfl<|bng rfl rfl rfl rfl run_ge<|pt0 rfl rfl rfl<|mv0 rfl rfl ?_
 cases c2548:decide (1≤((intK .i64).at ([a2,5,a2,5,5]:List Int) x2527))
 ·
  have H:=H.cf c2548
  refine sk rfl rfl<|sk rfl rfl<|sk rfl rfl<|sk rfl rfl<|sk rfl rfl<|pf0 rfl rfl rfl<|mv0 rfl rfl<|sk rfl rfl<|sk rfl rfl<|sk rfl rfl<|sk rfl rfl<|sk rfl rfl<|pf0 rfl rfl rfl<|mv0 rfl rfl<|sk rfl rfl<|sk rfl rfl<|sk rfl rfl<|sk rfl rfl<|sk rfl rfl<|pf0 rfl rfl rfl<|as0 rfl rfl<|.fin<|WP.seq<|rg 18 0<|mv0 rfl rfl<|Dv.one0 (fun _=>SSnd.nn) rfl trivial rfl rfl Tryz.underlying24 (mem_at 0 rfl)<|mv0 rfl rfl<|bn0 rfl rfl rfl (run_bne Tryz.underlying4)<|mv0 rfl rfl ?_
  rcases bem ((!t2533.1.isNone) != false) with c2571 | c2571
  rotate_left
  ·
   have H:=H.ct c2571
   refine Dv.gh (gh_sh 119 c2571 rfl) (fun _ _=>?_)
   refine Dv.gh (gh_sh 120 c2571 rfl) (fun _ _=>?_)
   refine sk rfl rfl<|sk rfl rfl<|sk rfl rfl<|sk rfl rfl<|pt0 rfl rfl rfl<|mv0 rfl rfl<|sk rfl rfl<|sk rfl rfl<|sk rfl rfl<|sku rfl rfl<|sku rfl rfl<|sk rfl rfl<|pt0 rfl rfl rfl<|.fin<|WP.cond rfl (fun _=>?_) nofun
   refine WP.seq<|rg 1 0<|as0 rfl rfl<|.fin ?_
   have H:=H.outr
   cases H.out; exact r1 i2 rfl (.cons (res_tmp rfl) .nil)
  have H:=H.cf c2571
  refine Dv.gh (gh_sh 119 c2571 rfl) (fun _ _=>?_)
  refine Dv.gh (gh_sh 120 c2571 rfl) (fun _ _=>?_)
  refine mvg rfl rfl rfl<|bng rfl rfl rfl rfl run_eq<|mvg rfl rfl rfl<|bng rfl rfl rfl rfl (run_bne Tryz.underlying4)<|pf0 rfl rfl rfl<|mv0 rfl rfl ?_
  rcases bem ((t2533.2 == 0) != false) with c2573 | c2573
  rotate_left
  ·
   have H:=H.ct c2573
   refine Dv.gh (gh_sh 124 c2573 rfl) (fun _ _=>?_)
   refine Dv.gh (gh_sh 125 c2573 rfl) (fun _ _=>?_)
   refine Dv.gh (gh_sh 126 c2573 rfl) (fun _ _=>?_)
   refine sk rfl rfl<|sk rfl rfl<|sk rfl rfl<|sku rfl rfl<|sku rfl rfl<|sk rfl rfl<|pt0 rfl rfl rfl<|.fin<|WP.cond rfl (fun _=>?_) nofun
   refine WP.seq<|rg 1 0<|as0 rfl rfl<|.fin ?_
   have H:=H.outr
   cases H.out; exact r1 i2 rfl (.cons (res_tmp rfl) .nil)
  have H:=H.cf c2573
  refine Dv.gh (gh_sh 124 c2573 rfl) (fun _ _=>?_)
  refine Dv.gh (gh_sh 125 c2573 rfl) (fun _ _=>?_)
  refine Dv.gh (gh_sh 126 c2573 rfl) (fun _ _=>?_)
  refine mvg rfl rfl rfl<|ung rfl rfl rfl (run_not _)<|mvg rfl rfl rfl<|mvg rfl rfl rfl<|bng rfl rfl rfl rfl run_ne<|ptg rfl rfl rfl rfl<|pf0 rfl rfl rfl<|.fin<|cd H rfl (fun _ H=>?_) (fun _ H=>?_)
  ·
   refine WP.seq<|rg 1 0<|as0 rfl rfl<|.fin ?_
   have H:=H.outr
   cases H.out; exact r1 i2 rfl (.cons (res_tmp rfl) .nil)
  refine WP.skip<|rg 3 0<|mv0 rfl rfl<|bn0 rfl rfl rfl run_add<|as0 rfl rfl<|.fin<|ng (sg 1 [0] 1) fun _ _=>?_
  exact bk j2591 (w64 (x2527 + 1)) H
 have H:=H.ct c2548
 refine mvg rfl rfl rfl<|mvg rfl rfl rfl<|gr H fun g2549 H=>Dv.ixr rfl (gg rfl) rfl rfl Tryz.underlying61 Tryz.underlying3 c3 g2549.1 g2549.2<|ldR rfl (gg rfl) rfl sc3 rfl<|bng rfl rfl rfl rfl run_le<|pt0 rfl rfl rfl<|mv0 rfl rfl ?_
 cases c2550:decide (((intK .i64).at ([a2,5,a2,5,5]:List Int) x2527)≤120)
 ·
  have H:=H.cf c2550
  refine sk rfl rfl<|sk rfl rfl<|sk rfl rfl<|sk rfl rfl<|sk rfl rfl<|pf0 rfl rfl rfl<|mv0 rfl rfl<|sk rfl rfl<|sk rfl rfl<|sk rfl rfl<|sk rfl rfl<|sk rfl rfl<|pf0 rfl rfl rfl<|as0 rfl rfl<|.fin<|WP.seq<|rg 18 0<|mv0 rfl rfl<|Dv.one0 (fun _=>SSnd.nn) rfl trivial rfl rfl Tryz.underlying24 (mem_at 0 rfl)<|mv0 rfl rfl<|bn0 rfl rfl rfl (run_bne Tryz.underlying4)<|mv0 rfl rfl ?_
  rcases bem ((!t2533.1.isNone) != false) with c2566 | c2566
  rotate_left
  ·
   have H:=H.ct c2566
   refine Dv.gh (gh_sh 119 c2566 rfl) (fun _ _=>?_)
   refine Dv.gh (gh_sh 120 c2566 rfl) (fun _ _=>?_)
   refine sk rfl rfl<|sk rfl rfl<|sk rfl rfl<|sk rfl rfl<|pt0 rfl rfl rfl<|mv0 rfl rfl<|sk rfl rfl<|sk rfl rfl<|sk rfl rfl<|sku rfl rfl<|sku rfl rfl<|sk rfl rfl<|pt0 rfl rfl rfl<|.fin<|WP.cond rfl (fun _=>?_) nofun
   refine WP.seq<|rg 1 0<|as0 rfl rfl<|.fin ?_
   have H:=H.outr
   cases H.out; exact r1 i2 rfl (.cons (res_tmp rfl) .nil)
  have H:=H.cf c2566
  refine Dv.gh (gh_sh 119 c2566 rfl) (fun _ _=>?_)
  refine Dv.gh (gh_sh 120 c2566 rfl) (fun _ _=>?_)
  refine mvg rfl rfl rfl<|bng rfl rfl rfl rfl run_eq<|mvg rfl rfl rfl<|bng rfl rfl rfl rfl (run_bne Tryz.underlying4)<|pf0 rfl rfl rfl<|mv0 rfl rfl ?_
  rcases bem ((t2533.2 == 0) != false) with c2568 | c2568
  rotate_left
  ·
   have H:=H.ct c2568
   refine Dv.gh (gh_sh 124 c2568 rfl) (fun _ _=>?_)
   refine Dv.gh (gh_sh 125 c2568 rfl) (fun _ _=>?_)
   refine Dv.gh (gh_sh 126 c2568 rfl) (fun _ _=>?_)
   refine sk rfl rfl<|sk rfl rfl<|sk rfl rfl<|sku rfl rfl<|sku rfl rfl<|sk rfl rfl<|pt0 rfl rfl rfl<|.fin<|WP.cond rfl (fun _=>?_) nofun
   refine WP.seq<|rg 1 0<|as0 rfl rfl<|.fin ?_
   have H:=H.outr
   cases H.out; exact r1 i2 rfl (.cons (res_tmp rfl) .nil)
  have H:=H.cf c2568
  refine Dv.gh (gh_sh 124 c2568 rfl) (fun _ _=>?_)
  refine Dv.gh (gh_sh 125 c2568 rfl) (fun _ _=>?_)
  refine Dv.gh (gh_sh 126 c2568 rfl) (fun _ _=>?_)
  refine mvg rfl rfl rfl<|ung rfl rfl rfl (run_not _)<|mvg rfl rfl rfl<|mvg rfl rfl rfl<|bng rfl rfl rfl rfl run_ne<|ptg rfl rfl rfl rfl<|pf0 rfl rfl rfl<|.fin<|cd H rfl (fun _ H=>?_) (fun _ H=>?_)
  ·
   refine WP.seq<|rg 1 0<|as0 rfl rfl<|.fin ?_
   have H:=H.outr
   cases H.out; exact r1 i2 rfl (.cons (res_tmp rfl) .nil)
  refine WP.skip<|rg 3 0<|mv0 rfl rfl<|bn0 rfl rfl rfl run_add<|as0 rfl rfl<|.fin<|ng (sg 1 [0] 1) fun _ _=>?_
  exact bk j2591 (w64 (x2527 + 1)) H
 have H:=H.ct c2550
 refine mvg rfl rfl rfl<|mvg rfl rfl rfl<|gr H fun g2551 H=>Dv.ixr rfl (gg rfl) rfl rfl Tryz.underlying61 Tryz.underlying3 c3 g2551.1 g2551.2<|ldR rfl (gg rfl) rfl sc3 rfl<|bng rfl rfl rfl rfl run_ge<|pt0 rfl rfl rfl<|mv0 rfl rfl ?_
 cases c2552:decide (0≤((intK .i64).at ([a3,0,0,a3,0]:List Int) x2527))
 ·
  have H:=H.cf c2552
  refine sk rfl rfl<|sk rfl rfl<|sk rfl rfl<|sk rfl rfl<|sk rfl rfl<|pf0 rfl rfl rfl<|as0 rfl rfl<|.fin<|WP.seq<|rg 18 0<|mv0 rfl rfl<|Dv.one0 (fun _=>SSnd.nn) rfl trivial rfl rfl Tryz.underlying24 (mem_at 0 rfl)<|mv0 rfl rfl<|bn0 rfl rfl rfl (run_bne Tryz.underlying4)<|mv0 rfl rfl ?_
  rcases bem ((!t2533.1.isNone) != false) with c2561 | c2561
  rotate_left
  ·
   have H:=H.ct c2561
   refine Dv.gh (gh_sh 119 c2561 rfl) (fun _ _=>?_)
   refine Dv.gh (gh_sh 120 c2561 rfl) (fun _ _=>?_)
   refine sk rfl rfl<|sk rfl rfl<|sk rfl rfl<|sk rfl rfl<|pt0 rfl rfl rfl<|mv0 rfl rfl<|sk rfl rfl<|sk rfl rfl<|sk rfl rfl<|sku rfl rfl<|sku rfl rfl<|sk rfl rfl<|pt0 rfl rfl rfl<|.fin<|WP.cond rfl (fun _=>?_) nofun
   refine WP.seq<|rg 1 0<|as0 rfl rfl<|.fin ?_
   have H:=H.outr
   cases H.out; exact r1 i2 rfl (.cons (res_tmp rfl) .nil)
  have H:=H.cf c2561
  refine Dv.gh (gh_sh 119 c2561 rfl) (fun _ _=>?_)
  refine Dv.gh (gh_sh 120 c2561 rfl) (fun _ _=>?_)
  refine mvg rfl rfl rfl<|bng rfl rfl rfl rfl run_eq<|mvg rfl rfl rfl<|bng rfl rfl rfl rfl (run_bne Tryz.underlying4)<|pf0 rfl rfl rfl<|mv0 rfl rfl ?_
  rcases bem ((t2533.2 == 0) != false) with c2563 | c2563
  rotate_left
  ·
   have H:=H.ct c2563
   refine Dv.gh (gh_sh 124 c2563 rfl) (fun _ _=>?_)
   refine Dv.gh (gh_sh 125 c2563 rfl) (fun _ _=>?_)
   refine Dv.gh (gh_sh 126 c2563 rfl) (fun _ _=>?_)
   refine sk rfl rfl<|sk rfl rfl<|sk rfl rfl<|sku rfl rfl<|sku rfl rfl<|sk rfl rfl<|pt0 rfl rfl rfl<|.fin<|WP.cond rfl (fun _=>?_) nofun
   refine WP.seq<|rg 1 0<|as0 rfl rfl<|.fin ?_
   have H:=H.outr
   cases H.out; exact r1 i2 rfl (.cons (res_tmp rfl) .nil)
  have H:=H.cf c2563
  refine Dv.gh (gh_sh 124 c2563 rfl) (fun _ _=>?_)
  refine Dv.gh (gh_sh 125 c2563 rfl) (fun _ _=>?_)
  refine Dv.gh (gh_sh 126 c2563 rfl) (fun _ _=>?_)
  refine mvg rfl rfl rfl<|ung rfl rfl rfl (run_not _)<|mvg rfl rfl rfl<|mvg rfl rfl rfl<|bng rfl rfl rfl rfl run_ne<|ptg rfl rfl rfl rfl<|pf0 rfl rfl rfl<|.fin<|cd H rfl (fun _ H=>?_) (fun _ H=>?_)
  ·
   refine WP.seq<|rg 1 0<|as0 rfl rfl<|.fin ?_
   have H:=H.outr
   cases H.out; exact r1 i2 rfl (.cons (res_tmp rfl) .nil)
  refine WP.skip<|rg 3 0<|mv0 rfl rfl<|bn0 rfl rfl rfl run_add<|as0 rfl rfl<|.fin<|ng (sg 1 [0] 1) fun _ _=>?_
  exact bk j2591 (w64 (x2527 + 1)) H
 have H:=H.ct c2552
 refine mvg rfl rfl rfl<|mvg rfl rfl rfl<|gr H fun g2553 H=>Dv.ixr rfl (gg rfl) rfl rfl Tryz.underlying61 Tryz.underlying3 c3 g2553.1 g2553.2<|ldR rfl (gg rfl) rfl sc3 rfl<|bng rfl rfl rfl rfl run_le<|pt0 rfl rfl rfl<|as0 rfl rfl<|.fin<|WP.seq<|rg 18 0<|mv0 rfl rfl<|Dv.one0 (fun _=>SSnd.nn) rfl trivial rfl rfl Tryz.underlying24 (mem_at 0 rfl)<|mv0 rfl rfl<|bn0 rfl rfl rfl (run_bne Tryz.underlying4)<|mv0 rfl rfl ?_
 rcases bem ((!t2533.1.isNone) != (decide (((intK .i64).at ([a3,0,0,a3,0]:List Int) x2527)≤1099511627776))) with c2554 | c2554
 rotate_left
 ·
  have H:=H.ct c2554
  refine Dv.gh (gh_sh 119 c2554 rfl) (fun _ _=>?_)
  refine Dv.gh (gh_sh 120 c2554 rfl) (fun _ _=>?_)
  refine sk rfl rfl<|sk rfl rfl<|sk rfl rfl<|sk rfl rfl<|pt0 rfl rfl rfl<|mv0 rfl rfl<|sk rfl rfl<|sk rfl rfl<|sk rfl rfl<|sku rfl rfl<|sku rfl rfl<|sk rfl rfl<|pt0 rfl rfl rfl<|.fin<|WP.cond rfl (fun _=>?_) nofun
  refine WP.seq<|rg 1 0<|as0 rfl rfl<|.fin ?_
  have H:=H.outr
  cases H.out; exact r1 i2 rfl (.cons (res_tmp rfl) .nil)
 have H:=H.cf c2554
 refine Dv.gh (gh_sh 119 c2554 rfl) (fun _ _=>?_)
 refine Dv.gh (gh_sh 120 c2554 rfl) (fun _ _=>?_)
 refine mvg rfl rfl rfl<|bng rfl rfl rfl rfl run_eq<|mvg rfl rfl rfl<|bng rfl rfl rfl rfl (run_bne Tryz.underlying4)<|pf0 rfl rfl rfl<|mv0 rfl rfl ?_
 rcases bem ((t2533.2 == 0) != (decide (((intK .i64).at ([a3,0,0,a3,0]:List Int) x2527)≤1099511627776))) with c2556 | c2556
 rotate_left
 ·
  have H:=H.ct c2556
  refine Dv.gh (gh_sh 124 c2556 rfl) (fun _ _=>?_)
  refine Dv.gh (gh_sh 125 c2556 rfl) (fun _ _=>?_)
  refine Dv.gh (gh_sh 126 c2556 rfl) (fun _ _=>?_)
  refine sk rfl rfl<|sk rfl rfl<|sk rfl rfl<|sku rfl rfl<|sku rfl rfl<|sk rfl rfl<|pt0 rfl rfl rfl<|.fin<|WP.cond rfl (fun _=>?_) nofun
  refine WP.seq<|rg 1 0<|as0 rfl rfl<|.fin ?_
  have H:=H.outr
  cases H.out; exact r1 i2 rfl (.cons (res_tmp rfl) .nil)
 have H:=H.cf c2556
 refine Dv.gh (gh_sh 124 c2556 rfl) (fun _ _=>?_)
 refine Dv.gh (gh_sh 125 c2556 rfl) (fun _ _=>?_)
 refine Dv.gh (gh_sh 126 c2556 rfl) (fun _ _=>?_)
 refine mvg rfl rfl rfl<|ung rfl rfl rfl (run_not _)<|mvg rfl rfl rfl ?_
 rcases bem (!(decide (((intK .i64).at ([a3,0,0,a3,0]:List Int) x2527)≤1099511627776))) with c2558 | c2558
 ·
  have H:=H.cf c2558
  refine Dv.gh (gh_sh 128 c2558 rfl) (fun _ _=>?_)
  refine Dv.gh (gh_sh 129 c2558 rfl) (fun _ _=>?_)
  refine sk rfl rfl<|sk rfl rfl<|pfg rfl rfl rfl rfl<|pf0 rfl rfl rfl<|.fin<|WP.cond rfl nofun (fun _=>?_)
  refine WP.skip<|rg 3 0<|mv0 rfl rfl<|bn0 rfl rfl rfl run_add<|as0 rfl rfl<|.fin<|ng (sg 1 [0] 1) fun _ _=>?_
  exact bk j2591 (w64 (x2527 + 1)) H
 have H:=H.ct c2558
 refine Dv.gh (gh_sh 128 c2558 rfl) (fun _ _=>?_)
 refine Dv.gh (gh_sh 129 c2558 rfl) (fun _ _=>?_)
 refine mvg rfl rfl rfl<|bng rfl rfl rfl rfl run_ne<|ptg rfl rfl rfl rfl<|pf0 rfl rfl rfl<|.fin<|cd H rfl (fun _ H=>?_) (fun _ H=>?_)
 ·
  refine WP.seq<|rg 1 0<|as0 rfl rfl<|.fin ?_
  have H:=H.outr
  cases H.out; exact r1 i2 rfl (.cons (res_tmp rfl) .nil)
 refine WP.skip<|rg 3 0<|mv0 rfl rfl<|bn0 rfl rfl rfl run_add<|as0 rfl rfl<|.fin<|ng (sg 1 [0] 1) fun _ _=>?_
 exact bk j2591 (w64 (x2527 + 1)) H
end Go.Proofs.YtmmaijneehmbgaaGreat
