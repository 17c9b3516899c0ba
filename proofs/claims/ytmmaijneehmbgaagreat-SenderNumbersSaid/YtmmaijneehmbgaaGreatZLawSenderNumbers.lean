import Derived.Test.YtmmaijneehmbgaaGreatZWalks3
import Derived.Test.YtmmaijneehmbgaaGreatConQ
import Derived.Test.YtmmaijneehmbgaaGreatConA6
import Derived.Eval
set_option linter.all false
set_option maxRecDepth 10000
set_option maxHeartbeats 20000000
namespace Go.Proofs.YtmmaijneehmbgaaGreat
open Go Go.Sp
theorem w18_SenderNumbers.c {k:Nat} {a0:Int} {a1:Int} {a2:Int} {r:Bool} (h:w18_SenderNumbers.f k a0 a1 a2 = some r):Pt Tryz.prog 6 [vI a0,vI a1,vI a2] (vB r):=by
 unfold w18_SenderNumbers.f at h
 refine pb Tryz.func6 Tryz.ntmps6 h fun R0 F H=>?_
 refine WP.seq<|rg 1 0<|as0 rfl rfl<|.fin<|WP.seq<|rg 7 81<|el H fun t2271 h2272 H=>cx 0 [] cal25 (w18_open.c h2272) nofun fun g2273 _=>?_
 refine mv0 rfl rfl<|ex0 rfl trivial rfl rfl<|ex0 rfl trivial rfl rfl<|al rfl trivial zc44 nofun fun b2274=>as0 rfl rfl<|sx 0 rfl trivial rfl rfl cA sz44 rfl rfl rfl nofun ?_
 refine .fin<|WP.seq<|rg 3 0<|mv0 rfl rfl<|el H fun t2275 h2276 H=>cl rfl cal12 rfl (r01_Around.c h2276)<|as0 rfl rfl<|.fin<|WP.seq<|rg 3 2<|mv0 rfl rfl<|el H fun t2277 h2278 H=>cx 2 [0,1] cal9 (w18_begin.c h2278) nofun fun g2279 _=>?_
 refine as0 rfl rfl<|.fin<|WP.seq<|WP.seq<|rg 6 0<|mv0 rfl rfl<|Dv.oeq0 (fun _=>VView.nn) rfl trivial rfl rfl Tryz.underlying26 (mem_at 2 rfl)<|mv0 rfl rfl ?_
 rcases bem t2271.1.isNone with c2280 | c2280
 rotate_left
 ·
  have H:=H.ct c2280
  refine Dv.gh (gh_sh 24 c2280 rfl) (fun _ _=>?_)
  refine Dv.gh (gh_sh 25 c2280 rfl) (fun _ _=>?_)
  refine sk rfl rfl<|sk rfl rfl<|pt0 rfl rfl rfl<|.fin<|WP.cond rfl (fun _=>?_) nofun
  refine WP.seq<|rg 1 0<|as0 rfl rfl<|.fin ?_
  cases H.out; exact r3 i2 rfl (.cons (res_tmp rfl) .nil)
 have H:=H.cf c2280
 refine Dv.gh (gh_sh 24 c2280 rfl) (fun _ _=>?_)
 refine Dv.gh (gh_sh 25 c2280 rfl) (fun _ _=>?_)
 refine mvg rfl rfl rfl<|Dv.oeq0 (fun _=>SSnd.nn) rfl (gg rfl) rfl rfl Tryz.underlying24 (mem_at 0 rfl)<|pf0 rfl rfl rfl<|.fin<|cd H rfl (fun _ H=>?_) (fun c2282 H=>?_)
 ·
  refine WP.seq<|wg (opt_some 2 rfl c2280) fun _ _=>?_
  refine rg 1 0<|as0 rfl rfl<|.fin ?_
  cases H.out; exact r3 i2 rfl (.cons (res_tmp rfl) .nil)
 refine wg (opt_some 0 rfl c2282) fun _ _=>?_
 refine WP.skip<|WP.seqr H id (fun p2283:Int×Bool×SSnd=>[(0,vI a0),(1,vI a1),(2,vI a2),(6,vB false),(9,vI t2275),(10,eq g2279.1),(11,vI p2283.1),(28,vB t2277.isNone),(33,vB p2283.2.1)]) (fun p2283:Int×Bool×SSnd=>[blk b2274 44 (RView.enc t2271.2),SSnd.O g2279 p2283.2.2]++F) (fun p2283 H=>?_) (fun H=>?_)
 ·
  refine WP.seq<|rg 6 0<|mv0 rfl rfl<|vg (SSnd.opn 1 rfl) fun g2284 h2285=>?_
  refine vg (SQue.opn 1 rfl) fun g2286 h2287=>?_
  refine vg (Ctr.opn 4 rfl) fun g2288 h2289=>?_
  refine el H fun t2290 h2291 H=>cll 7 [4,1,2,3,0,5,6] cal31 (Tr.weak (sender_Sender_Idle.c h2291 (b0_:=g2284.1) (v0_0:=g2284.2.1) (v0_1:=g2284.2.2.1) (v0_2:=g2284.2.2.2) (v0_3:=g2286.2.1) (v0_4:=g2286.2.2) (d0_0:=g2286.1) (e0_0:=h2287) (d0_1:=g2288) (e0_1:=h2289)) (.cons (wk_ptr h2285) .nil)) ?_
  refine mv0 rfl rfl ?_
  rcases bem t2290 with c2292 | c2292
  ·
   have H:=H.cf c2292
   refine Dv.gh (gh_sh 107 c2292 rfl) (fun _ _=>?_)
   refine Dv.gh (gh_sh 108 c2292 rfl) (fun _ _=>?_)
   refine sk rfl rfl<|pf0 rfl rfl rfl<|as0 rfl rfl<|.fin<|wg (SQue.shut (p:=g2284.2.1) (m:=p2283.2.2.fQueue) (g2286.1,g2286.2.1,g2286.2.2) h2287 (pm 7 [1,2,3,0,4,5,6])) fun _ _=>?_
   refine wg (Ctr.shut (p:=g2284.2.2.1) (m:=p2283.2.2.fids) g2288 h2289 (pm 5 [1,0,2,3,4])) fun _ _=>?_
   refine wg (SSnd.shut (p:=g2279) (m:=p2283.2.2) (g2284.1,g2284.2.1,g2284.2.2.1,g2284.2.2.2) h2285 (pm 5 [2,1,0,3,4])) fun _ _=>?_
   cases H.out; exact r2 i2 rfl (.cons (res_tmp rfl) .nil)
  have H:=H.ct c2292
  refine Dv.gh (gh_sh 107 c2292 rfl) (fun _ _=>?_)
  refine Dv.gh (gh_sh 108 c2292 rfl) (fun _ _=>?_)
  refine el H fun t2293 h2294 H=>Dv.call rfl (gg rfl) cal21 rfl (w18_lives.c h2294)<|pt0 rfl rfl rfl<|as0 rfl rfl<|.fin<|wg (SQue.shut (p:=g2284.2.1) (m:=p2283.2.2.fQueue) (g2286.1,g2286.2.1,g2286.2.2) h2287 (pm 7 [1,2,3,0,4,5,6])) fun _ _=>?_
  refine wg (Ctr.shut (p:=g2284.2.2.1) (m:=p2283.2.2.fids) g2288 h2289 (pm 5 [1,0,2,3,4])) fun _ _=>?_
  refine wg (SSnd.shut (p:=g2279) (m:=p2283.2.2) (g2284.1,g2284.2.1,g2284.2.2.1,g2284.2.2.2) h2285 (pm 5 [2,1,0,3,4])) fun _ _=>?_
  cases H.out; exact r2 i2 rfl (.cons (res_tmp rfl) .nil)
 refine WP.seq<|wg (opt_some 2 rfl c2280) fun _ _=>?_
 refine rg 1 0<|as0 rfl rfl<|.fin<|WP.block<|wg (sg 3 [2,0,1] 0) fun _ _=>?_
 refine lp (fun j_ (p2344:Int×SSnd)=>w18_SenderNumbers.l0 k a1 a2 t2271 t2275 j_ p2344.1 p2344.2) (1,t2277.getD default) H (fun p2344=>[(0,vI a0),(1,vI a1),(2,vI a2),(6,vB false),(7,eq g2273.1),(9,vI t2275),(10,eq g2279.1),(11,vI p2344.1),(28,vB t2277.isNone)]) (fun p2344=>[blk b2274 44 (RView.enc t2271.2),VView.O g2273 (t2271.1.getD default),SSnd.O g2279 p2344.2]++F) ?_
 rintro j_ ⟨x2295,x2296⟩ H
 rcases j_ with _ | j2343
 ·
  exact (Gets.no H).elim
 replace H:Gets (w18_SenderNumbers.l0 k a1 a2 t2271 t2275 (j2343 + 1) x2295 x2296) _:=H
 rw [w18_SenderNumbers.l0] at H
 refine WP.seq<|WP.seq<|rg 5 0<|mv0 rfl rfl<|mv0 rfl rfl<|el H fun t2297 h2298 H=>cl rfl cal12 rfl (r01_Around.c h2298)<|bn0 rfl rfl rfl run_add<|bn0 rfl rfl rfl run_le<|.fin<|cd H rfl (fun _ H=>?_) (fun _ H=>?_)
 rotate_left
 ·
  refine WP.exit ?_
  have H:=H.out
  refine ng (sg 3 [1,0,2] 1) fun _ _=>?_
  exact jn (x2295,decide (x2295≤(w64 (1 + t2297))),x2296) H
 refine WP.skip<|WP.seq<|WP.block<|WP.seq<|wg (SSnd.opn 2 rfl) fun g2300 h2301=>?_
 refine dg Tryz.checked.mixed 9 256<|mv0 rfl rfl<|Dv.nilpp h2301 rfl trivial rfl<|fp h2301 rfl trivial rfl fa40_0<|ld 0 rfl trivial rfl sc36 rfl rfl<|mv0 rfl rfl<|el H fun t2302 h2303 H=>cl rfl cal27 rfl (r01_UserOf.c h2303)<|mv0 rfl rfl<|Dv.bld (qs:=[vI 3,vS (⟨#[]⟩:ByteArray),vS t2302,vS (⟨#[]⟩:ByteArray),vS (⟨#[]⟩:ByteArray),vB false,vB false,vI 0,vI 0,vI 0,vI x2295]) (css:=[[vI 3],[vS t2302],[vI x2295]]) rfl trivial Tryz.underlying32 pl32 z32 rfl ⟨(cells_one (one_eq rfl)),⟨(cells_one (one_eq rfl)),⟨(cells_one (one_eq rfl)),trivial⟩⟩⟩ rfl rfl<|el H fun t2304 h2305 H=>cx 6 [1,0,2,3,4,5] cal13 (queue_Queue_Put.c h2305 (p0_:=g2300.2.1)) pC fun _ _=>?_
 refine .fin<|WP.seq<|rg 12 776<|mv0 rfl rfl<|mv0 rfl rfl<|mv0 rfl rfl<|vg (SSnd.shut (p:=g2279) (m:=(⟨t2304.2.2.2,x2296.fself,x2296.fto,x2296.fids,x2296.fair⟩:SSnd)) (g2300.1,g2300.2.1,g2300.2.2.1,g2300.2.2.2) h2301 (pm 6 [1,0,2,3,4,5])) fun _ _=>?_
 refine el H fun t2306 h2307 H=>cx 3 [0,2,1] cal15 (sender_Sender_Send.c h2307 (p0_:=g2279) (p1_:=g2273)) nofun fun _ _=>?_
 refine mv0 rfl rfl<|ex0 rfl trivial rfl rfl<|ex0 rfl trivial rfl rfl<|ex0 rfl trivial rfl rfl<|al rfl trivial zc46 nofun fun b2308=>sx 0 rfl trivial rfl rfl cA sz46 rfl rfl rfl nofun ?_
 refine as0 rfl rfl<|as0 rfl rfl<|.fin<|WP.seq<|WP.seq<|rg 33 0<|mv0 rfl rfl<|un0 rfl rfl (run_not _)<|mv0 rfl rfl ?_
 rcases bem (!t2306.2.1) with c2309 | c2309
 rotate_left
 ·
  have H:=H.ct c2309
  refine Dv.gh (gh_sh 54 c2309 rfl) (fun _ _=>?_)
  refine Dv.gh (gh_sh 55 c2309 rfl) (fun _ _=>?_)
  refine sk rfl rfl<|sk rfl rfl<|pt0 rfl rfl rfl<|mv0 rfl rfl<|sk rfl rfl<|sk rfl rfl<|sk rfl rfl<|sk rfl rfl<|sk rfl rfl<|sk rfl rfl<|pt0 rfl rfl rfl<|mv0 rfl rfl<|sk rfl rfl<|sk rfl rfl<|sk rfl rfl<|pt0 rfl rfl rfl<|mv0 rfl rfl<|sk rfl rfl<|sk rfl rfl<|sk rfl rfl<|pt0 rfl rfl rfl<|mv0 rfl rfl<|sk rfl rfl<|sk rfl rfl<|pt0 rfl rfl rfl<|mv0 rfl rfl<|sk rfl rfl<|sk rfl rfl<|sk rfl rfl<|pt0 rfl rfl rfl<|.fin<|WP.cond rfl (fun _=>?_) nofun
  refine WP.seq<|rg 1 0<|as0 rfl rfl<|.fin ?_
  have H:=H.outr
  cases H.out; exact r4 i2 rfl (.cons (res_tmp rfl) .nil)
 have H:=H.cf c2309
 refine Dv.gh (gh_sh 54 c2309 rfl) (fun _ _=>?_)
 refine Dv.gh (gh_sh 55 c2309 rfl) (fun _ _=>?_)
 refine mvg rfl rfl rfl<|bng rfl rfl rfl rfl run_ne<|pf0 rfl rfl rfl<|mv0 rfl rfl ?_
 rcases bem (t2306.2.2.1 != 0) with c2311 | c2311
 rotate_left
 ·
  have H:=H.ct c2311
  refine Dv.gh (gh_sh 57 c2311 rfl) (fun _ _=>?_)
  refine Dv.gh (gh_sh 58 c2311 rfl) (fun _ _=>?_)
  refine Dv.gh (gh_sh 59 c2311 rfl) (fun _ _=>?_)
  refine sk rfl rfl<|sk rfl rfl<|sk rfl rfl<|sk rfl rfl<|sk rfl rfl<|sk rfl rfl<|pt0 rfl rfl rfl<|mv0 rfl rfl<|sk rfl rfl<|sk rfl rfl<|sk rfl rfl<|pt0 rfl rfl rfl<|mv0 rfl rfl<|sk rfl rfl<|sk rfl rfl<|sk rfl rfl<|pt0 rfl rfl rfl<|mv0 rfl rfl<|sk rfl rfl<|sk rfl rfl<|pt0 rfl rfl rfl<|mv0 rfl rfl<|sk rfl rfl<|sk rfl rfl<|sk rfl rfl<|pt0 rfl rfl rfl<|.fin<|WP.cond rfl (fun _=>?_) nofun
  refine WP.seq<|rg 1 0<|as0 rfl rfl<|.fin ?_
  have H:=H.outr
  cases H.out; exact r4 i2 rfl (.cons (res_tmp rfl) .nil)
 have H:=H.cf c2311
 refine Dv.gh (gh_sh 57 c2311 rfl) (fun _ _=>?_)
 refine Dv.gh (gh_sh 58 c2311 rfl) (fun _ _=>?_)
 refine Dv.gh (gh_sh 59 c2311 rfl) (fun _ _=>?_)
 refine fb rfl (gg rfl) rfl fa46_3<|ld 0 rfl (gg rfl) rfl sc3 rfl rfl<|mvg rfl rfl rfl<|mvg rfl rfl rfl<|bng rfl rfl rfl rfl run_add<|bng rfl rfl rfl rfl run_ne<|pf0 rfl rfl rfl<|mv0 rfl rfl ?_
 rcases bem (t2306.1.fID != (w64 (t2275 + x2295))) with c2313 | c2313
 rotate_left
 ·
  have H:=H.ct c2313
  refine Dv.gh (gh_sh 65 c2313 rfl) (fun _ _=>?_)
  refine Dv.gh (gh_sh 66 c2313 rfl) (fun _ _=>?_)
  refine Dv.gh (gh_sh 67 c2313 rfl) (fun _ _=>?_)
  refine sk rfl rfl<|sk rfl rfl<|sk rfl rfl<|pt0 rfl rfl rfl<|mv0 rfl rfl<|sk rfl rfl<|sk rfl rfl<|sk rfl rfl<|pt0 rfl rfl rfl<|mv0 rfl rfl<|sk rfl rfl<|sk rfl rfl<|pt0 rfl rfl rfl<|mv0 rfl rfl<|sk rfl rfl<|sk rfl rfl<|sk rfl rfl<|pt0 rfl rfl rfl<|.fin<|WP.cond rfl (fun _=>?_) nofun
  refine WP.seq<|rg 1 0<|as0 rfl rfl<|.fin ?_
  have H:=H.outr
  cases H.out; exact r4 i2 rfl (.cons (res_tmp rfl) .nil)
 have H:=H.cf c2313
 refine Dv.gh (gh_sh 65 c2313 rfl) (fun _ _=>?_)
 refine Dv.gh (gh_sh 66 c2313 rfl) (fun _ _=>?_)
 refine Dv.gh (gh_sh 67 c2313 rfl) (fun _ _=>?_)
 refine fb rfl (gg rfl) rfl fa46_1<|ld 0 rfl (gg rfl) rfl sc9 rfl rfl<|bng rfl rfl rfl rfl run_sne<|pf0 rfl rfl rfl<|mv0 rfl rfl ?_
 rcases bem (!decide (t2306.1.fFrom = (⟨#[115,49]⟩:ByteArray))) with c2315 | c2315
 rotate_left
 ·
  have H:=H.ct c2315
  refine Dv.gh (gh_sh 70 c2315 rfl) (fun _ _=>?_)
  refine Dv.gh (gh_sh 71 c2315 rfl) (fun _ _=>?_)
  refine Dv.gh (gh_sh 72 c2315 rfl) (fun _ _=>?_)
  refine sk rfl rfl<|sk rfl rfl<|sk rfl rfl<|pt0 rfl rfl rfl<|mv0 rfl rfl<|sk rfl rfl<|sk rfl rfl<|pt0 rfl rfl rfl<|mv0 rfl rfl<|sk rfl rfl<|sk rfl rfl<|sk rfl rfl<|pt0 rfl rfl rfl<|.fin<|WP.cond rfl (fun _=>?_) nofun
  refine WP.seq<|rg 1 0<|as0 rfl rfl<|.fin ?_
  have H:=H.outr
  cases H.out; exact r4 i2 rfl (.cons (res_tmp rfl) .nil)
 have H:=H.cf c2315
 refine Dv.gh (gh_sh 70 c2315 rfl) (fun _ _=>?_)
 refine Dv.gh (gh_sh 71 c2315 rfl) (fun _ _=>?_)
 refine Dv.gh (gh_sh 72 c2315 rfl) (fun _ _=>?_)
 refine fb rfl (gg rfl) rfl fa46_2<|ld 0 rfl (gg rfl) rfl sc9 rfl rfl<|bng rfl rfl rfl rfl run_sne<|pf0 rfl rfl rfl<|mv0 rfl rfl ?_
 rcases bem (!decide (t2306.1.fTo = (⟨#[115,50]⟩:ByteArray))) with c2317 | c2317
 rotate_left
 ·
  have H:=H.ct c2317
  refine Dv.gh (gh_sh 75 c2317 rfl) (fun _ _=>?_)
  refine Dv.gh (gh_sh 76 c2317 rfl) (fun _ _=>?_)
  refine Dv.gh (gh_sh 77 c2317 rfl) (fun _ _=>?_)
  refine sk rfl rfl<|sk rfl rfl<|pt0 rfl rfl rfl<|mv0 rfl rfl<|sk rfl rfl<|sk rfl rfl<|sk rfl rfl<|pt0 rfl rfl rfl<|.fin<|WP.cond rfl (fun _=>?_) nofun
  refine WP.seq<|rg 1 0<|as0 rfl rfl<|.fin ?_
  have H:=H.outr
  cases H.out; exact r4 i2 rfl (.cons (res_tmp rfl) .nil)
 have H:=H.cf c2317
 refine Dv.gh (gh_sh 75 c2317 rfl) (fun _ _=>?_)
 refine Dv.gh (gh_sh 76 c2317 rfl) (fun _ _=>?_)
 refine Dv.gh (gh_sh 77 c2317 rfl) (fun _ _=>?_)
 refine fb rfl (gg rfl) rfl fa46_0<|ld 0 rfl (gg rfl) rfl sc4 rfl rfl<|pf0 rfl rfl rfl<|mv0 rfl rfl ?_
 rcases bem t2306.1.fAck with c2319 | c2319
 rotate_left
 ·
  have H:=H.ct c2319
  refine Dv.gh (gh_sh 79 c2319 rfl) (fun _ _=>?_)
  refine Dv.gh (gh_sh 80 c2319 rfl) (fun _ _=>?_)
  refine Dv.gh (gh_sh 81 c2319 rfl) (fun _ _=>?_)
  refine sk rfl rfl<|sk rfl rfl<|sk rfl rfl<|pt0 rfl rfl rfl<|.fin<|WP.cond rfl (fun _=>?_) nofun
  refine WP.seq<|rg 1 0<|as0 rfl rfl<|.fin ?_
  have H:=H.outr
  cases H.out; exact r4 i2 rfl (.cons (res_tmp rfl) .nil)
 have H:=H.cf c2319
 refine Dv.gh (gh_sh 79 c2319 rfl) (fun _ _=>?_)
 refine Dv.gh (gh_sh 80 c2319 rfl) (fun _ _=>?_)
 refine Dv.gh (gh_sh 81 c2319 rfl) (fun _ _=>?_)
 refine lds 0 rfl (gg rfl) rfl sg46 rfl rfl<|el H fun t2321 h2322 H=>Dv.call rfl (gg rfl) cal30 rfl (parcel_May.c h2322)<|ung rfl rfl rfl (run_not _)<|pf0 rfl rfl rfl<|.fin<|cd H rfl (fun _ H=>?_) (fun _ H=>?_)
 ·
  refine WP.seq<|rg 1 0<|as0 rfl rfl<|.fin ?_
  have H:=H.outr
  cases H.out; exact r4 i2 rfl (.cons (res_tmp rfl) .nil)
 refine WP.skip<|WP.seq<|WP.seq<|rg 9 128<|mv0 rfl rfl<|fb rfl trivial rfl fa46_3<|ld 0 rfl trivial rfl sc3 rfl rfl<|bn0 rfl rfl rfl run_ne<|mv0 rfl rfl ?_
 rcases bem (a2 != t2306.1.fID) with c2324 | c2324
 ·
  have H:=H.cf c2324
  refine Dv.gh (gh_sh 89 c2324 rfl) (fun _ _=>?_)
  refine Dv.gh (gh_sh 90 c2324 rfl) (fun _ _=>?_)
  refine sk rfl rfl<|sk rfl rfl<|Dv.skipb rfl ⟨_,_,rfl,rfl,.inl rfl⟩ nofun<|pf0 rfl rfl rfl<|.fin<|WP.cond rfl nofun (fun _=>?_)
  refine WP.skip<|WP.seq<|rg 11 520<|mv0 rfl rfl<|fb rfl trivial rfl fa46_3<|ld 0 rfl trivial rfl sc3 rfl rfl<|el H fun t2336 h2337 H=>cx 4 [1,0,2,3] cal29 (sender_Sender_Ack.c h2337 (p0_:=g2279)) nofun fun _ _=>?_
  refine un0 rfl rfl (run_not _)<|mv0 rfl rfl ?_
  rcases bem (!t2336.1) with c2338 | c2338
  rotate_left
  ·
   have H:=H.ct c2338
   refine Dv.gh (gh_sh 99 c2338 rfl) (fun _ _=>?_)
   refine Dv.gh (gh_sh 100 c2338 rfl) (fun _ _=>?_)
   refine sk rfl rfl<|sk rfl rfl<|sk rfl rfl<|Dv.skipb rfl ⟨_,_,rfl,rfl,.inl rfl⟩ nofun<|pt0 rfl rfl rfl<|.fin<|WP.cond rfl (fun _=>?_) nofun
   refine WP.seq<|rg 1 0<|as0 rfl rfl<|.fin ?_
   have H:=H.outr
   cases H.out; exact r4 i2 rfl (.cons (res_tmp rfl) .nil)
  have H:=H.cf c2338
  refine Dv.gh (gh_sh 99 c2338 rfl) (fun _ _=>?_)
  refine Dv.gh (gh_sh 100 c2338 rfl) (fun _ _=>?_)
  refine mvg rfl rfl rfl<|fb rfl (gg rfl) rfl fa46_3<|ld 1 rfl (gg rfl) rfl sc3 rfl rfl<|el H fun t2340 h2341 H=>cx 4 [0,1,2,3] cal29 (sender_Sender_Ack.c h2341 (p0_:=g2279)) nofun fun _ _=>?_
  refine pf0 rfl rfl rfl<|.fin<|cd H rfl (fun _ H=>?_) (fun _ H=>?_)
  ·
   refine WP.seq<|rg 1 0<|as0 rfl rfl<|.fin ?_
   have H:=H.outr
   cases H.out; exact r4 i2 rfl (.cons (res_tmp rfl) .nil)
  refine WP.skip<|rg 3 0<|mv0 rfl rfl<|bn0 rfl rfl rfl run_add<|as0 rfl rfl<|.fin<|ng (sg 4 [1,3,2,0] 1) fun _ _=>?_
  exact bk j2343 (w64 (x2295 + 1),t2340.2) H
 have H:=H.ct c2324
 refine Dv.gh (gh_sh 89 c2324 rfl) (fun _ _=>?_)
 refine Dv.gh (gh_sh 90 c2324 rfl) (fun _ _=>?_)
 refine mvg rfl rfl rfl<|mvg rfl rfl rfl<|el H fun t2325 h2326 H=>cx 4 [1,0,2,3] cal29 (sender_Sender_Ack.c h2326 (p0_:=g2279)) nofun fun _ _=>?_
 refine pt0 rfl rfl rfl<|.fin<|cd H rfl (fun _ H=>?_) (fun _ H=>?_)
 ·
  refine WP.seq<|rg 1 0<|as0 rfl rfl<|.fin ?_
  have H:=H.outr
  cases H.out; exact r4 i2 rfl (.cons (res_tmp rfl) .nil)
 refine WP.skip<|WP.seq<|rg 11 520<|mv0 rfl rfl<|fb rfl trivial rfl fa46_3<|ld 1 rfl trivial rfl sc3 rfl rfl<|el H fun t2328 h2329 H=>cx 4 [0,1,2,3] cal29 (sender_Sender_Ack.c h2329 (p0_:=g2279)) nofun fun _ _=>?_
 refine un0 rfl rfl (run_not _)<|mv0 rfl rfl ?_
 rcases bem (!t2328.1) with c2330 | c2330
 rotate_left
 ·
  have H:=H.ct c2330
  refine Dv.gh (gh_sh 99 c2330 rfl) (fun _ _=>?_)
  refine Dv.gh (gh_sh 100 c2330 rfl) (fun _ _=>?_)
  refine sk rfl rfl<|sk rfl rfl<|sk rfl rfl<|Dv.skipb rfl ⟨_,_,rfl,rfl,.inl rfl⟩ nofun<|pt0 rfl rfl rfl<|.fin<|WP.cond rfl (fun _=>?_) nofun
  refine WP.seq<|rg 1 0<|as0 rfl rfl<|.fin ?_
  have H:=H.outr
  cases H.out; exact r4 i2 rfl (.cons (res_tmp rfl) .nil)
 have H:=H.cf c2330
 refine Dv.gh (gh_sh 99 c2330 rfl) (fun _ _=>?_)
 refine Dv.gh (gh_sh 100 c2330 rfl) (fun _ _=>?_)
 refine mvg rfl rfl rfl<|fb rfl (gg rfl) rfl fa46_3<|ld 1 rfl (gg rfl) rfl sc3 rfl rfl<|el H fun t2332 h2333 H=>cx 4 [0,1,2,3] cal29 (sender_Sender_Ack.c h2333 (p0_:=g2279)) nofun fun _ _=>?_
 refine pf0 rfl rfl rfl<|.fin<|cd H rfl (fun _ H=>?_) (fun _ H=>?_)
 ·
  refine WP.seq<|rg 1 0<|as0 rfl rfl<|.fin ?_
  have H:=H.outr
  cases H.out; exact r4 i2 rfl (.cons (res_tmp rfl) .nil)
 refine WP.skip<|rg 3 0<|mv0 rfl rfl<|bn0 rfl rfl rfl run_add<|as0 rfl rfl<|.fin<|ng (sg 4 [1,3,2,0] 1) fun _ _=>?_
 exact bk j2343 (w64 (x2295 + 1),t2332.2) H
end Go.Proofs.YtmmaijneehmbgaaGreat
