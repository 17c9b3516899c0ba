import Derived.Test.YtmmaijneehmbgaaGreatZWalks3
import Derived.Test.YtmmaijneehmbgaaGreatConQ
import Derived.Test.YtmmaijneehmbgaaGreatConA6
import Derived.Eval
set_option linter.all false
set_option maxRecDepth 10000
set_option maxHeartbeats 20000000
namespace Go.Proofs.YtmmaijneehmbgaaGreat
open Go Go.Sp
theorem w18_SenderWaits.c {k:Nat} {a0:Int} {a1:Int} {r:Bool} (h:w18_SenderWaits.f k a0 a1 = some r):Pt Tryz.prog 7 [vI a0,vI a1] (vB r):=by
 unfold w18_SenderWaits.f at h
 refine pb Tryz.func7 Tryz.ntmps7 h fun R0 F H=>?_
 refine WP.seq<|rg 1 0<|as0 rfl rfl<|.fin<|WP.seq<|rg 7 81<|el H fun t2179 h2180 H=>cx 0 [] cal25 (w18_open.c h2180) nofun fun g2181 _=>?_
 refine mv0 rfl rfl<|ex0 rfl trivial rfl rfl<|ex0 rfl trivial rfl rfl<|al rfl trivial zc44 nofun fun b2182=>as0 rfl rfl<|sx 0 rfl trivial rfl rfl cA sz44 rfl rfl rfl nofun ?_
 refine .fin<|WP.seq<|rg 2 1<|el H fun t2183 h2184 H=>cx 2 [0,1] cal9 (w18_begin.c h2184) nofun fun g2185 _=>?_
 refine as0 rfl rfl<|.fin<|WP.seq<|WP.seq<|rg 6 0<|mv0 rfl rfl<|Dv.oeq0 (fun _=>VView.nn) rfl trivial rfl rfl Tryz.underlying26 (mem_at 2 rfl)<|mv0 rfl rfl ?_
 rcases bem t2179.1.isNone with c2186 | c2186
 rotate_left
 ·
  have H:=H.ct c2186
  refine Dv.gh (gh_sh 21 c2186 rfl) (fun _ _=>?_)
  refine Dv.gh (gh_sh 22 c2186 rfl) (fun _ _=>?_)
  refine sk rfl rfl<|sk rfl rfl<|pt0 rfl rfl rfl<|.fin<|WP.cond rfl (fun _=>?_) nofun
  refine WP.seq<|rg 1 0<|as0 rfl rfl<|.fin ?_
  cases H.out; exact r3 i2 rfl (.cons (res_tmp rfl) .nil)
 have H:=H.cf c2186
 refine Dv.gh (gh_sh 21 c2186 rfl) (fun _ _=>?_)
 refine Dv.gh (gh_sh 22 c2186 rfl) (fun _ _=>?_)
 refine mvg rfl rfl rfl<|Dv.oeq0 (fun _=>SSnd.nn) rfl (gg rfl) rfl rfl Tryz.underlying24 (mem_at 0 rfl)<|pf0 rfl rfl rfl<|.fin<|cd H rfl (fun _ H=>?_) (fun c2188 H=>?_)
 ·
  refine WP.seq<|wg (opt_some 2 rfl c2186) fun _ _=>?_
  refine rg 1 0<|as0 rfl rfl<|.fin ?_
  cases H.out; exact r3 i2 rfl (.cons (res_tmp rfl) .nil)
 refine wg (opt_some 0 rfl c2188) fun _ _=>?_
 refine WP.skip<|WP.seq<|wg (opt_some 2 rfl c2186) fun _ _=>?_
 refine rg 6 32<|mv0 rfl rfl<|Dv.nilA SSnd.nn rfl trivial rfl (mem_at 1 rfl)<|vg (SSnd.opn 1 rfl) fun g2189 h2190=>?_
 refine fp h2190 rfl trivial rfl fa40_0<|ld 0 rfl trivial rfl sc36 rfl rfl<|Dv.bld (qs:=[vI 3,vS (⟨#[]⟩:ByteArray),vS (⟨#[64,97,58,115,49]⟩:ByteArray),vS (⟨#[]⟩:ByteArray),vS (⟨#[]⟩:ByteArray),vB false,vB false,vI 0,vI 2,vI 0,vI 0]) (css:=[[vI 3],[vS (⟨#[64,97,58,115,49]⟩:ByteArray)],[vI 2]]) rfl trivial Tryz.underlying32 pl32 z32 rfl ⟨(cells_one (one_eq rfl)),⟨(cells_one (one_eq rfl)),⟨(cells_one (one_eq rfl)),trivial⟩⟩⟩ rfl rfl<|el H fun t2191 h2192 H=>cx 6 [1,0,2,3,4,5] cal13 (queue_Queue_Put.c h2192 (p0_:=g2189.2.1)) nofun fun _ _=>?_
 refine .fin<|WP.seq<|rg 3 0<|mv0 rfl rfl<|el H fun t2193 h2194 H=>cl rfl cal12 rfl (r01_Around.c h2194)<|as0 rfl rfl<|.fin<|WP.seq<|rg 2 0<|mv0 rfl rfl<|as0 rfl rfl<|.fin<|WP.seq<|rg 1 0<|as0 rfl rfl<|.fin<|WP.seqr H id (fun p2195:Int×Int×Int×Bool×SSnd=>[(0,vI a0),(1,vI a1),(4,vB false),(5,eq g2181.1),(7,eq g2185.1),(8,vI t2193),(9,vI p2195.1),(10,vI p2195.2.1),(11,vI p2195.2.2.1),(25,vB t2183.isNone),(38,vB p2195.2.2.2.1)]) (fun p2195:Int×Int×Int×Bool×SSnd=>[blk b2182 44 (RView.enc t2179.2),SSnd.O g2185 p2195.2.2.2.2,VView.O g2181 (t2179.1.getD default)]++F) (fun p2195 H=>?_) (fun H=>?_)
 ·
  refine WP.seq<|rg 15 32<|mv0 rfl rfl<|vg (SSnd.opn 1 rfl) fun g2196 h2197=>?_
  refine vg (SQue.opn 1 rfl) fun g2198 h2199=>?_
  refine vg (Ctr.opn 4 rfl) fun g2200 h2201=>?_
  refine el H fun t2202 h2203 H=>cll 8 [4,1,2,3,0,5,6,7] cal31 (Tr.weak (sender_Sender_Idle.c h2203 (b0_:=g2196.1) (v0_0:=g2196.2.1) (v0_1:=g2196.2.2.1) (v0_2:=g2196.2.2.2) (v0_3:=g2198.2.1) (v0_4:=g2198.2.2) (d0_0:=g2198.1) (e0_0:=h2199) (d0_1:=g2200) (e0_1:=h2201)) (.cons (wk_ptr h2197) .nil)) ?_
  refine un0 rfl rfl (run_not _)<|mv0 rfl rfl ?_
  rcases bem (!t2202) with c2204 | c2204
  ·
   have H:=H.cf c2204
   refine Dv.gh (gh_sh 89 c2204 rfl) (fun _ _=>?_)
   refine Dv.gh (gh_sh 90 c2204 rfl) (fun _ _=>?_)
   refine sk rfl rfl<|Dv.skipb rfl ⟨_,_,rfl,rfl,.inl rfl⟩ nofun<|pf0 rfl rfl rfl<|mv0 rfl rfl<|sk rfl rfl<|sk rfl rfl<|pf0 rfl rfl rfl<|mv0 rfl rfl<|sk rfl rfl<|pf0 rfl rfl rfl<|as0 rfl rfl<|.fin<|wg (SQue.shut (p:=g2196.2.1) (m:=p2195.2.2.2.2.fQueue) (g2198.1,g2198.2.1,g2198.2.2) h2199 (pm 8 [1,2,3,0,4,5,6,7])) fun _ _=>?_
   refine wg (Ctr.shut (p:=g2196.2.2.1) (m:=p2195.2.2.2.2.fids) g2200 h2201 (pm 6 [1,0,2,3,4,5])) fun _ _=>?_
   refine wg (SSnd.shut (p:=g2185) (m:=p2195.2.2.2.2) (g2196.1,g2196.2.1,g2196.2.2.1,g2196.2.2.2) h2197 (pm 6 [2,1,0,3,4,5])) fun _ _=>?_
   cases H.out; exact r3 i2 rfl (.cons (res_tmp rfl) .nil)
  have H:=H.ct c2204
  refine Dv.gh (gh_sh 89 c2204 rfl) (fun _ _=>?_)
  refine Dv.gh (gh_sh 90 c2204 rfl) (fun _ _=>?_)
  refine mvg rfl rfl rfl<|vg (SQue.shut (p:=g2196.2.1) (m:=p2195.2.2.2.2.fQueue) (g2198.1,g2198.2.1,g2198.2.2) h2199 (pm 8 [1,2,3,0,4,5,6,7])) fun _ _=>?_
  refine vg (Ctr.shut (p:=g2196.2.2.1) (m:=p2195.2.2.2.2.fids) g2200 h2201 (pm 6 [1,0,2,3,4,5])) fun _ _=>?_
  refine vg (SSnd.shut (p:=g2185) (m:=p2195.2.2.2.2) (g2196.1,g2196.2.1,g2196.2.2.1,g2196.2.2.2) h2197 (pm 6 [2,1,0,3,4,5])) fun _ _=>?_
  refine el H fun t2205 h2206 H=>cx 3 [0,1,2] cal29 (sender_Sender_Ack.c h2206 (p0_:=g2185)) nofun fun _ _=>?_
  refine pt0 rfl rfl rfl<|mv0 rfl rfl ?_
  rcases bem t2205.1 with c2207 | c2207
  ·
   have H:=H.cf c2207
   refine Dv.gh (gh_sh 92 c2207 rfl) (fun _ _=>?_)
   refine Dv.gh (gh_sh 93 c2207 rfl) (fun _ _=>?_)
   refine Dv.gh (gh_sh 94 c2207 rfl) (fun _ _=>?_)
   refine sk rfl rfl<|sk rfl rfl<|pf0 rfl rfl rfl<|mv0 rfl rfl<|sk rfl rfl<|pf0 rfl rfl rfl<|as0 rfl rfl<|.fin ?_
   cases H.out; exact r3 i2 rfl (.cons (res_tmp rfl) .nil)
  have H:=H.ct c2207
  refine Dv.gh (gh_sh 92 c2207 rfl) (fun _ _=>?_)
  refine Dv.gh (gh_sh 93 c2207 rfl) (fun _ _=>?_)
  refine Dv.gh (gh_sh 94 c2207 rfl) (fun _ _=>?_)
  refine mvg rfl rfl rfl<|vg (SSnd.opn 0 rfl) fun g2208 h2209=>?_
  refine vg (SQue.opn 1 rfl) fun g2210 h2211=>?_
  refine vg (Ctr.opn 4 rfl) fun g2212 h2213=>?_
  refine el H fun t2214 h2215 H=>cll 8 [4,1,2,3,0,5,6,7] cal31 (Tr.weak (sender_Sender_Idle.c h2215 (b0_:=g2208.1) (v0_0:=g2208.2.1) (v0_1:=g2208.2.2.1) (v0_2:=g2208.2.2.2) (v0_3:=g2210.2.1) (v0_4:=g2210.2.2) (d0_0:=g2210.1) (e0_0:=h2211) (d0_1:=g2212) (e0_1:=h2213)) (.cons (wk_ptr h2209) .nil)) ?_
  refine pt0 rfl rfl rfl<|mv0 rfl rfl ?_
  rcases bem t2214 with c2216 | c2216
  ·
   have H:=H.cf c2216
   refine Dv.gh (gh_sh 96 c2216 rfl) (fun _ _=>?_)
   refine Dv.gh (gh_sh 97 c2216 rfl) (fun _ _=>?_)
   refine Dv.gh (gh_sh 98 c2216 rfl) (fun _ _=>?_)
   refine sk rfl rfl<|pf0 rfl rfl rfl<|as0 rfl rfl<|.fin<|wg (SQue.shut (p:=g2208.2.1) (m:=t2205.2.fQueue) (g2210.1,g2210.2.1,g2210.2.2) h2211 (pm 8 [1,2,3,0,4,5,6,7])) fun _ _=>?_
   refine wg (Ctr.shut (p:=g2208.2.2.1) (m:=t2205.2.fids) g2212 h2213 (pm 6 [1,0,2,3,4,5])) fun _ _=>?_
   refine wg (SSnd.shut (p:=g2185) (m:=t2205.2) (g2208.1,g2208.2.1,g2208.2.2.1,g2208.2.2.2) h2209 (pm 6 [2,1,0,3,4,5])) fun _ _=>?_
   cases H.out; exact r3 i2 rfl (.cons (res_tmp rfl) .nil)
  have H:=H.ct c2216
  refine Dv.gh (gh_sh 96 c2216 rfl) (fun _ _=>?_)
  refine Dv.gh (gh_sh 97 c2216 rfl) (fun _ _=>?_)
  refine Dv.gh (gh_sh 98 c2216 rfl) (fun _ _=>?_)
  refine el H fun t2217 h2218 H=>Dv.call rfl (gg rfl) cal21 rfl (w18_lives.c h2218)<|pt0 rfl rfl rfl<|as0 rfl rfl<|.fin<|wg (SQue.shut (p:=g2208.2.1) (m:=t2205.2.fQueue) (g2210.1,g2210.2.1,g2210.2.2) h2211 (pm 8 [1,2,3,0,4,5,6,7])) fun _ _=>?_
  refine wg (Ctr.shut (p:=g2208.2.2.1) (m:=t2205.2.fids) g2212 h2213 (pm 6 [1,0,2,3,4,5])) fun _ _=>?_
  refine wg (SSnd.shut (p:=g2185) (m:=t2205.2) (g2208.1,g2208.2.1,g2208.2.2.1,g2208.2.2.2) h2209 (pm 6 [2,1,0,3,4,5])) fun _ _=>?_
  cases H.out; exact r3 i2 rfl (.cons (res_tmp rfl) .nil)
 refine WP.seq<|rg 1 0<|as0 rfl rfl<|.fin<|WP.block<|wg (SSnd.shut (p:=g2185) (m:=(⟨t2191.2.2.2,(t2183.getD default).fself,(t2183.getD default).fto,(t2183.getD default).fids,(t2183.getD default).fair⟩:SSnd)) (g2189.1,g2189.2.1,g2189.2.2.1,g2189.2.2.2) h2190 (pm 6 [1,0,2,3,4,5])) fun _ _=>?_
 refine wg (sg 3 [2,0,1] 0) fun _ _=>?_
 refine lp (fun j_ (p2252:Int×Int×Int×SSnd)=>w18_SenderWaits.l0 k a1 t2179 t2193 j_ p2252.1 p2252.2.1 p2252.2.2.1 p2252.2.2.2) (t2193,0,0,(⟨t2191.2.2.2,(t2183.getD default).fself,(t2183.getD default).fto,(t2183.getD default).fids,(t2183.getD default).fair⟩:SSnd)) H (fun p2252=>[(0,vI a0),(1,vI a1),(4,vB false),(5,eq g2181.1),(7,eq g2185.1),(8,vI t2193),(9,vI p2252.1),(10,vI p2252.2.1),(11,vI p2252.2.2.1),(25,vB t2183.isNone)]) (fun p2252=>[blk b2182 44 (RView.enc t2179.2),SSnd.O g2185 p2252.2.2.2,VView.O g2181 (t2179.1.getD default)]++F) ?_
 rintro j_ ⟨x2219,x2220,x2221,x2222⟩ H
 rcases j_ with _ | j2251
 ·
  exact (Gets.no H).elim
 replace H:Gets (w18_SenderWaits.l0 k a1 t2179 t2193 (j2251 + 1) x2219 x2220 x2221 x2222) _:=H
 rw [w18_SenderWaits.l0] at H
 refine WP.seq<|WP.seq<|rg 4 0<|mv0 rfl rfl<|mv0 rfl rfl<|el H fun t2223 h2224 H=>cl rfl cal12 rfl (r01_Around.c h2224)<|bn0 rfl rfl rfl run_le<|.fin<|cd H rfl (fun _ H=>?_) (fun _ H=>?_)
 rotate_left
 ·
  refine WP.exit ?_
  have H:=H.out
  exact jn (x2219,x2220,x2221,decide (x2221≤t2223),x2222) H
 refine WP.skip<|WP.seq<|WP.block<|WP.seq<|rg 14 3104<|mv0 rfl rfl<|mv0 rfl rfl<|mv0 rfl rfl<|mv0 rfl rfl<|bn0 rfl rfl rfl run_add<|el H fun t2226 h2227 H=>cx 3 [1,2,0] cal15 (sender_Sender_Send.c h2227 (p0_:=g2185) (p1_:=g2181)) nofun fun _ _=>?_
 refine mv0 rfl rfl<|ex0 rfl trivial rfl rfl<|ex0 rfl trivial rfl rfl<|ex0 rfl trivial rfl rfl<|al rfl trivial zc46 nofun fun b2228=>sx 0 rfl trivial rfl rfl cA sz46 rfl rfl rfl nofun ?_
 refine as0 rfl rfl<|as0 rfl rfl<|.fin<|WP.seq<|WP.seq<|rg 25 0<|mv0 rfl rfl<|bn0 rfl rfl rfl run_ne<|mv0 rfl rfl ?_
 rcases bem (t2226.2.2.1 != 0) with c2229 | c2229
 rotate_left
 ·
  have H:=H.ct c2229
  refine Dv.gh (gh_sh 52 c2229 rfl) (fun _ _=>?_)
  refine Dv.gh (gh_sh 53 c2229 rfl) (fun _ _=>?_)
  refine sk rfl rfl<|sk rfl rfl<|sk rfl rfl<|sk rfl rfl<|sk rfl rfl<|sk rfl rfl<|sk rfl rfl<|pt0 rfl rfl rfl<|mv0 rfl rfl<|sk rfl rfl<|sk rfl rfl<|sku rfl rfl<|sku rfl rfl<|sku rfl rfl<|sku rfl rfl<|sku rfl rfl<|sku rfl rfl<|sku rfl rfl<|sku rfl rfl<|sku rfl rfl<|sk rfl rfl<|pt0 rfl rfl rfl<|.fin<|WP.cond rfl (fun _=>?_) nofun
  refine WP.seq<|rg 1 0<|as0 rfl rfl<|.fin ?_
  have H:=H.outr
  cases H.out; exact r4 i2 rfl (.cons (res_tmp rfl) .nil)
 have H:=H.cf c2229
 refine Dv.gh (gh_sh 52 c2229 rfl) (fun _ _=>?_)
 refine Dv.gh (gh_sh 53 c2229 rfl) (fun _ _=>?_)
 refine mvg rfl rfl rfl<|mvg rfl rfl rfl<|mvg rfl rfl rfl<|bng rfl rfl rfl rfl run_add<|mvg rfl rfl rfl<|bng rfl rfl rfl rfl run_eq<|bng rfl rfl rfl rfl (run_bne Tryz.underlying4)<|pf0 rfl rfl rfl<|mv0 rfl rfl ?_
 rcases bem (t2226.2.1 != ((w64 (t2193 + x2221)) == x2219)) with c2231 | c2231
 rotate_left
 ·
  have H:=H.ct c2231
  refine Dv.gh (gh_sh 60 c2231 rfl) (fun _ _=>?_)
  refine Dv.gh (gh_sh 61 c2231 rfl) (fun _ _=>?_)
  refine Dv.gh (gh_sh 62 c2231 rfl) (fun _ _=>?_)
  refine sk rfl rfl<|sk rfl rfl<|sku rfl rfl<|sku rfl rfl<|sku rfl rfl<|sku rfl rfl<|sku rfl rfl<|sku rfl rfl<|sku rfl rfl<|sku rfl rfl<|sku rfl rfl<|sk rfl rfl<|pt0 rfl rfl rfl<|.fin<|WP.cond rfl (fun _=>?_) nofun
  refine WP.seq<|rg 1 0<|as0 rfl rfl<|.fin ?_
  have H:=H.outr
  cases H.out; exact r4 i2 rfl (.cons (res_tmp rfl) .nil)
 have H:=H.cf c2231
 refine Dv.gh (gh_sh 60 c2231 rfl) (fun _ _=>?_)
 refine Dv.gh (gh_sh 61 c2231 rfl) (fun _ _=>?_)
 refine Dv.gh (gh_sh 62 c2231 rfl) (fun _ _=>?_)
 refine mvg rfl rfl rfl<|mvg rfl rfl rfl ?_
 rcases bem t2226.2.1 with c2233 | c2233
 ·
  have H:=H.cf c2233
  refine Dv.gh (gh_sh 49 c2233 rfl) (fun _ _=>?_)
  refine Dv.gh (gh_sh 13 c2233 rfl) (fun _ _=>?_)
  refine Dv.gh (gh_sh 54 c2233 rfl) (fun _ _=>?_)
  refine Dv.gh (gh_sh 63 c2233 rfl) (fun _ _=>?_)
  refine Dv.gh (gh_sh 64 c2233 rfl) (fun _ _=>?_)
  refine sk rfl rfl<|sk rfl rfl<|sk rfl rfl<|sk rfl rfl<|sku rfl rfl<|sku rfl rfl<|sku rfl rfl<|sku rfl rfl<|sk rfl rfl<|pfg rfl rfl rfl rfl<|pf0 rfl rfl rfl<|.fin<|WP.cond rfl nofun (fun _=>?_)
  refine WP.skip<|WP.seq<|rg 1 0<|mv0 rfl rfl<|.fin<|WP.cond rfl nofun (fun _=>?_)
  refine WP.skip<|rg 3 0<|mv0 rfl rfl<|bn0 rfl rfl rfl run_add<|as0 rfl rfl<|.fin<|ng (sg 4 [0,3,1,2] 1) fun _ _=>?_
  exact bk j2251 (x2219,x2220,w64 (x2221 + 1),t2226.2.2.2) H
 have H:=H.ct c2233
 refine Dv.gh (gh_sh 49 c2233 rfl) (fun _ _=>?_)
 refine Dv.gh (gh_sh 13 c2233 rfl) (fun _ _=>?_)
 refine Dv.gh (gh_sh 54 c2233 rfl) (fun _ _=>?_)
 refine Dv.gh (gh_sh 63 c2233 rfl) (fun _ _=>?_)
 refine Dv.gh (gh_sh 64 c2233 rfl) (fun _ _=>?_)
 refine fb rfl (gg rfl) rfl fa46_3<|ld 0 rfl (gg rfl) rfl sc3 rfl rfl<|bng rfl rfl rfl rfl run_ne<|mvg rfl rfl rfl ?_
 rcases bem (t2226.1.fID != 8) with c2234 | c2234
 rotate_left
 ·
  have H:=H.ct c2234
  refine Dv.gh (gh_sh 67 c2234 rfl) (fun _ _=>?_)
  refine Dv.gh (gh_sh 68 c2234 rfl) (fun _ _=>?_)
  refine sk rfl rfl<|sk rfl rfl<|sk rfl rfl<|sk rfl rfl<|ptg rfl rfl rfl rfl<|ptg rfl rfl rfl rfl<|pf0 rfl rfl rfl<|.fin<|WP.cond rfl (fun _=>?_) nofun
  refine WP.seq<|rg 1 0<|as0 rfl rfl<|.fin ?_
  have H:=H.outr
  cases H.out; exact r4 i2 rfl (.cons (res_tmp rfl) .nil)
 have H:=H.cf c2234
 refine Dv.gh (gh_sh 67 c2234 rfl) (fun _ _=>?_)
 refine Dv.gh (gh_sh 68 c2234 rfl) (fun _ _=>?_)
 refine fb rfl (gg rfl) rfl fa46_4<|ld 0 rfl (gg rfl) rfl sc23 rfl rfl<|Dv.lenl rfl (gg rfl) rfl Tryz.underlying23<|bng rfl rfl rfl rfl run_ne<|pfg rfl rfl rfl rfl<|ptg rfl rfl rfl rfl<|pf0 rfl rfl rfl<|.fin<|cd H rfl (fun _ H=>?_) (fun _ H=>?_)
 ·
  refine WP.seq<|rg 1 0<|as0 rfl rfl<|.fin ?_
  have H:=H.outr
  cases H.out; exact r4 i2 rfl (.cons (res_tmp rfl) .nil)
 refine WP.skip<|WP.seq<|rg 1 0<|mv0 rfl rfl<|.fin<|WP.cond rfl (fun _=>?_) nofun
 refine WP.seq<|rg 5 0<|mv0 rfl rfl<|mv0 rfl rfl<|el H fun t2238 h2239 H=>cl rfl cal32 rfl (r05_Backoff.c h2239)<|bn0 rfl rfl rfl run_add<|as0 rfl rfl<|.fin<|WP.seq<|WP.seq<|rg 4 0<|mv0 rfl rfl<|vg (SSnd.opn 1 rfl) fun g2240 h2241=>?_
 refine vg (SQue.opn 1 rfl) fun g2242 h2243=>?_
 refine vg (Ctr.opn 4 rfl) fun g2244 h2245=>?_
 refine el H fun t2246 h2247 H=>cll 9 [4,1,2,3,0,5,6,7,8] cal33 (Tr.weak (sender_Sender_Tries.c h2247 (b0_:=g2240.1) (v0_0:=g2240.2.1) (v0_1:=g2240.2.2.1) (v0_2:=g2240.2.2.2) (v0_3:=g2242.2.1) (v0_4:=g2242.2.2) (d0_0:=g2242.1) (e0_0:=h2243) (d0_1:=g2244) (e0_1:=h2245)) (.cons (wk_ptr h2241) .nil)) ?_
 refine mv0 rfl rfl<|bn0 rfl rfl rfl run_ne<|.fin<|cd H rfl (fun _ H=>?_) (fun _ H=>?_)
 ·
  refine WP.seq<|rg 1 0<|as0 rfl rfl<|.fin<|wg (SQue.shut (p:=g2240.2.1) (m:=t2226.2.2.2.fQueue) (g2242.1,g2242.2.1,g2242.2.2) h2243 (pm 9 [1,2,3,0,4,5,6,7,8])) fun _ _=>?_
  refine wg (Ctr.shut (p:=g2240.2.2.1) (m:=t2226.2.2.2.fids) g2244 h2245 (pm 7 [1,0,2,3,4,5,6])) fun _ _=>?_
  refine wg (SSnd.shut (p:=g2185) (m:=t2226.2.2.2) (g2240.1,g2240.2.1,g2240.2.2.1,g2240.2.2.2) h2241 (pm 7 [2,1,0,3,4,5,6])) fun _ _=>?_
  have H:=H.outr
  cases H.out; exact r4 i2 rfl (.cons (res_tmp rfl) .nil)
 refine WP.skip<|rg 3 0<|mv0 rfl rfl<|bn0 rfl rfl rfl run_add<|as0 rfl rfl<|.fin<|rg 3 0<|mv0 rfl rfl<|bn0 rfl rfl rfl run_add<|as0 rfl rfl<|.fin<|ng (SQue.shut (p:=g2240.2.1) (m:=t2226.2.2.2.fQueue) (g2242.1,g2242.2.1,g2242.2.2) h2243 (pm 9 [1,2,3,0,4,5,6,7,8])) fun _ _=>?_
 refine ng (Ctr.shut (p:=g2240.2.2.1) (m:=t2226.2.2.2.fids) g2244 h2245 (pm 7 [1,0,2,3,4,5,6])) fun _ _=>?_
 refine ng (SSnd.shut (p:=g2185) (m:=t2226.2.2.2) (g2240.1,g2240.2.1,g2240.2.2.1,g2240.2.2.2) h2241 (pm 7 [2,1,0,3,4,5,6])) fun _ _=>?_
 refine ng (sg 4 [1,3,0,2] 1) fun _ _=>?_
 exact bk j2251 (w64 (x2219 + t2238),w64 (x2220 + 1),w64 (x2221 + 1),t2226.2.2.2) H
end Go.Proofs.YtmmaijneehmbgaaGreat
