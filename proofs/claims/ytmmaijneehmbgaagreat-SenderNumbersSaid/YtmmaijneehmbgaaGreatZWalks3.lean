import Derived.Test.YtmmaijneehmbgaaGreatZWalks2
import Derived.Test.YtmmaijneehmbgaaGreatConQ
import Derived.Test.YtmmaijneehmbgaaGreatConA6
import Derived.Eval
set_option linter.all false
set_option maxRecDepth 10000
set_option maxHeartbeats 20000000
namespace Go.Proofs.YtmmaijneehmbgaaGreat
open Go Go.Sp
theorem sender_Sender_Idle.c {a0:SSnd} {v0_0 v0_1 v0_2 v0_3 v0_4:OV} {b0_ d0_0 d0_1:Nat} {e0_0:v0_0.1 = .pointer (some ⟨d0_0,0,none⟩)} {e0_1:v0_1.1 = .pointer (some ⟨d0_1,0,none⟩)} {r:Bool} (h:sender_Sender_Idle.f a0 = some r):Tr Tryz.prog 31 [eq (.pointer (some ⟨b0_,0,none⟩))] [blk b0_ 40 [eq v0_0.1,vS a0.fself,vS a0.fto,eq v0_1.1,eq v0_2.1],blk d0_0 107 [vI a0.fQueue.fmost,eq v0_3.1,eq v0_4.1,vI a0.fQueue.flost],own EKey.K v0_3.1 a0.fQueue.fkeys,mp EKey.kv (fun x:Edu=>agg (Edu.enc x)) v0_4.1 a0.fQueue.fat,blk d0_1 173 [vI a0.fids.fn.fv,vI a0.fids.fmost],optO Fly.O v0_2 a0.fair] (γ:=Unit) (fun _=>True) (fun g=>vB r) (fun g=>[blk b0_ 40 [eq v0_0.1,vS a0.fself,vS a0.fto,eq v0_1.1,eq v0_2.1],blk d0_0 107 [vI a0.fQueue.fmost,eq v0_3.1,eq v0_4.1,vI a0.fQueue.flost],own EKey.K v0_3.1 a0.fQueue.fkeys,mp EKey.kv (fun x:Edu=>agg (Edu.enc x)) v0_4.1 a0.fQueue.fat,blk d0_1 173 [vI a0.fids.fn.fv,vI a0.fids.fmost],optO Fly.O v0_2 a0.fair]):=by
 unfold sender_Sender_Idle.f at h
 refine Tr.body Tryz.func31 (c:=_) rfl Tryz.ntmps31 (Nat.le_of_ble_eq_true rfl) fun R0 F=>?_
 replace h:=Gets.of h
 have H:=h
 clear h
 refine WP.seq<|rg 1 0<|as0 rfl rfl<|.fin<|WP.seq<|rg 14 0<|mv0 rfl rfl<|Dv.nilp rfl trivial rfl<|fb rfl trivial rfl fa40_4<|ld 0 rfl trivial rfl sc38 rfl rfl<|Dv.oeq0 (fun _=>Fly.nn) rfl trivial rfl rfl Tryz.underlying38 (mem_at 5 rfl)<|mv0 rfl rfl ?_
 rcases bem a0.fair.isNone with c2017 | c2017
 ·
  have H:=H.cf c2017
  refine Dv.gh (gh_sh 7 c2017 rfl) (fun _ _=>?_)
  refine Dv.gh (gh_sh 8 c2017 rfl) (fun _ _=>?_)
  refine sk rfl rfl<|sk rfl rfl<|sk rfl rfl<|sk rfl rfl<|sk rfl rfl<|sk rfl rfl<|pf0 rfl rfl rfl<|as0 rfl rfl<|.fin ?_
  cases H.out; exact rt i2 rfl () 6 [0,1,2,3,4,5] 0 (.cons (res_tmp rfl) .nil)
 have H:=H.ct c2017
 refine Dv.gh (gh_sh 7 c2017 rfl) (fun _ _=>?_)
 refine Dv.gh (gh_sh 8 c2017 rfl) (fun _ _=>?_)
 refine mvg rfl rfl rfl<|Dv.nilp rfl (gg rfl) rfl<|fb rfl (gg rfl) rfl fa40_0<|ld 0 rfl (gg rfl) rfl sc36 rfl rfl<|el H fun t2018 h2019 H=>cll 6 [1,2,3,0,4,5] cal50 (Tr.weak (queue_Queue_Len.c h2019 (b0_:=d0_0) (v0_0:=v0_3) (v0_1:=v0_4)) (.cons (wk_ptr e0_0) .nil)) ?_
 refine bng rfl rfl rfl rfl run_eq<|pt0 rfl rfl rfl<|as0 rfl rfl<|.fin ?_
 cases H.out; exact rt i2 rfl () 6 [0,1,2,3,4,5] 0 (.cons (res_tmp rfl) .nil)
theorem parcel_May_1.c {k:Nat} {a0:Edu} {r:Bool} (h:parcel_May_1.f k a0 = some r):Pt Tryz.prog 67 [agg (Edu.enc a0)] (vB r):=by
 unfold parcel_May_1.f at h
 refine pb Tryz.func67 Tryz.ntmps67 h fun R0 F H=>?_
 refine WP.seq<|rg 2 1<|Dv.box rfl trivial rfl cA nofun fun b2253=>as0 rfl rfl<|.fin<|WP.seq<|rg 4 0<|lds 0 rfl trivial rfl sg32 rfl rfl<|el H fun t2254 h2255 H=>cl rfl cal42 rfl (edu_May.c h2255)<|un0 rfl rfl (run_not _)<|as0 rfl rfl<|.fin ?_
 cases H.out; exact r1 i2 rfl (.cons (res_tmp rfl) .nil)
theorem parcel_May.c {k:Nat} {a0:Par} {r:Bool} (h:parcel_May.f k a0 = some r):Pt Tryz.prog 30 [agg (Par.enc a0)] (vB r):=by
 unfold parcel_May.f at h
 refine pb Tryz.func30 Tryz.ntmps30 h fun R0 F H=>?_
 refine WP.seq<|rg 2 1<|Dv.box rfl trivial rfl cA nofun fun b2256=>as0 rfl rfl<|.fin<|WP.seq<|rg 4 0<|fb rfl trivial rfl fa46_4<|ld 0 rfl trivial rfl sc23 rfl rfl<|el H fun t2257 h2258 H=>cl rfl cal66 rfl (Pt.weak (slices_ContainsFunc_Edu.c h2258) (.cons wk_id (.cons (wk_fn cal67 (by rintro _ _ ⟨a0_,r_,h_,rfl,rfl⟩; exact parcel_May_1.c h_)) .nil)))<|as0 rfl rfl<|.fin<|WP.seq<|rg 47 0<|fb rfl trivial rfl fa46_1<|ld 0 rfl trivial rfl sc9 rfl rfl<|el H fun t2259 h2260 H=>cl rfl cal59 rfl (name_Server.c h2260)<|mv0 rfl rfl ?_
 cases c2261:t2259
 ·
  have H:=H.cf c2261
  refine sk rfl rfl<|sk rfl rfl<|sk rfl rfl<|pf0 rfl rfl rfl<|mv0 rfl rfl<|sk rfl rfl<|sk rfl rfl<|sk rfl rfl<|sk rfl rfl<|sk rfl rfl<|pf0 rfl rfl rfl<|mv0 rfl rfl<|sk rfl rfl<|sk rfl rfl<|sk rfl rfl<|pf0 rfl rfl rfl<|mv0 rfl rfl<|sk rfl rfl<|sk rfl rfl<|sk rfl rfl<|pf0 rfl rfl rfl<|mv0 rfl rfl<|sk rfl rfl<|sk rfl rfl<|sk rfl rfl<|sk rfl rfl<|pf0 rfl rfl rfl<|mv0 rfl rfl<|sk rfl rfl<|sk rfl rfl<|pf0 rfl rfl rfl<|mv0 rfl rfl<|sk rfl rfl<|sk rfl rfl<|sk rfl rfl<|sk rfl rfl<|sku rfl rfl<|sku rfl rfl<|sku rfl rfl<|sku rfl rfl<|sk rfl rfl<|pf0 rfl rfl rfl<|as0 rfl rfl<|.fin ?_
  cases H.out; exact r1 i2 rfl (.cons (res_tmp rfl) .nil)
 have H:=H.ct c2261
 refine fb rfl (gg rfl) rfl fa46_2<|ld 0 rfl (gg rfl) rfl sc9 rfl rfl<|el H fun t2262 h2263 H=>Dv.call rfl (gg rfl) cal59 rfl (name_Server.c h2263)<|pt0 rfl rfl rfl<|mv0 rfl rfl ?_
 cases c2264:t2262
 ·
  have H:=H.cf c2264
  refine sk rfl rfl<|sk rfl rfl<|sk rfl rfl<|sk rfl rfl<|sk rfl rfl<|pf0 rfl rfl rfl<|mv0 rfl rfl<|sk rfl rfl<|sk rfl rfl<|sk rfl rfl<|pf0 rfl rfl rfl<|mv0 rfl rfl<|sk rfl rfl<|sk rfl rfl<|sk rfl rfl<|pf0 rfl rfl rfl<|mv0 rfl rfl<|sk rfl rfl<|sk rfl rfl<|sk rfl rfl<|sk rfl rfl<|pf0 rfl rfl rfl<|mv0 rfl rfl<|sk rfl rfl<|sk rfl rfl<|pf0 rfl rfl rfl<|mv0 rfl rfl<|sk rfl rfl<|sk rfl rfl<|sk rfl rfl<|sk rfl rfl<|sku rfl rfl<|sku rfl rfl<|sku rfl rfl<|sku rfl rfl<|sk rfl rfl<|pf0 rfl rfl rfl<|as0 rfl rfl<|.fin ?_
  cases H.out; exact r1 i2 rfl (.cons (res_tmp rfl) .nil)
 have H:=H.ct c2264
 refine fb rfl (gg rfl) rfl fa46_1<|ld 0 rfl (gg rfl) rfl sc9 rfl rfl<|fb rfl (gg rfl) rfl fa46_2<|ld 0 rfl (gg rfl) rfl sc9 rfl rfl<|bng rfl rfl rfl rfl run_sne<|pt0 rfl rfl rfl<|mv0 rfl rfl ?_
 cases c2265:!decide (a0.fFrom = a0.fTo)
 ·
  have H:=H.cf c2265
  refine sk rfl rfl<|sk rfl rfl<|sk rfl rfl<|pf0 rfl rfl rfl<|mv0 rfl rfl<|sk rfl rfl<|sk rfl rfl<|sk rfl rfl<|pf0 rfl rfl rfl<|mv0 rfl rfl<|sk rfl rfl<|sk rfl rfl<|sk rfl rfl<|sk rfl rfl<|pf0 rfl rfl rfl<|mv0 rfl rfl<|sk rfl rfl<|sk rfl rfl<|pf0 rfl rfl rfl<|mv0 rfl rfl<|sk rfl rfl<|sk rfl rfl<|sk rfl rfl<|sk rfl rfl<|sku rfl rfl<|sku rfl rfl<|sku rfl rfl<|sku rfl rfl<|sk rfl rfl<|pf0 rfl rfl rfl<|as0 rfl rfl<|.fin ?_
  cases H.out; exact r1 i2 rfl (.cons (res_tmp rfl) .nil)
 have H:=H.ct c2265
 refine fb rfl (gg rfl) rfl fa46_3<|ld 0 rfl (gg rfl) rfl sc3 rfl rfl<|bng rfl rfl rfl rfl run_ge<|pt0 rfl rfl rfl<|mv0 rfl rfl ?_
 cases c2266:decide (1≤a0.fID)
 ·
  have H:=H.cf c2266
  refine sk rfl rfl<|sk rfl rfl<|sk rfl rfl<|pf0 rfl rfl rfl<|mv0 rfl rfl<|sk rfl rfl<|sk rfl rfl<|sk rfl rfl<|sk rfl rfl<|pf0 rfl rfl rfl<|mv0 rfl rfl<|sk rfl rfl<|sk rfl rfl<|pf0 rfl rfl rfl<|mv0 rfl rfl<|sk rfl rfl<|sk rfl rfl<|sk rfl rfl<|sk rfl rfl<|sku rfl rfl<|sku rfl rfl<|sku rfl rfl<|sku rfl rfl<|sk rfl rfl<|pf0 rfl rfl rfl<|as0 rfl rfl<|.fin ?_
  cases H.out; exact r1 i2 rfl (.cons (res_tmp rfl) .nil)
 have H:=H.ct c2266
 refine fb rfl (gg rfl) rfl fa46_3<|ld 0 rfl (gg rfl) rfl sc3 rfl rfl<|bng rfl rfl rfl rfl run_le<|pt0 rfl rfl rfl<|mv0 rfl rfl ?_
 cases c2267:decide (a0.fID≤1099511627776)
 ·
  have H:=H.cf c2267
  refine sk rfl rfl<|sk rfl rfl<|sk rfl rfl<|sk rfl rfl<|pf0 rfl rfl rfl<|mv0 rfl rfl<|sk rfl rfl<|sk rfl rfl<|pf0 rfl rfl rfl<|mv0 rfl rfl<|sk rfl rfl<|sk rfl rfl<|sk rfl rfl<|sk rfl rfl<|sku rfl rfl<|sku rfl rfl<|sku rfl rfl<|sku rfl rfl<|sk rfl rfl<|pf0 rfl rfl rfl<|as0 rfl rfl<|.fin ?_
  cases H.out; exact r1 i2 rfl (.cons (res_tmp rfl) .nil)
 have H:=H.ct c2267
 refine fb rfl (gg rfl) rfl fa46_4<|ld 0 rfl (gg rfl) rfl sc23 rfl rfl<|Dv.lenl rfl (gg rfl) rfl Tryz.underlying23<|bng rfl rfl rfl rfl run_le<|pt0 rfl rfl rfl<|mv0 rfl rfl ?_
 cases c2268:decide ((a0.fEdus.length:Int)≤100)
 ·
  have H:=H.cf c2268
  refine sk rfl rfl<|sk rfl rfl<|pf0 rfl rfl rfl<|mv0 rfl rfl<|sk rfl rfl<|sk rfl rfl<|sk rfl rfl<|sk rfl rfl<|sku rfl rfl<|sku rfl rfl<|sku rfl rfl<|sku rfl rfl<|sk rfl rfl<|pf0 rfl rfl rfl<|as0 rfl rfl<|.fin ?_
  cases H.out; exact r1 i2 rfl (.cons (res_tmp rfl) .nil)
 have H:=H.ct c2268
 refine mvg rfl rfl rfl<|ung rfl rfl rfl (run_not _)<|pt0 rfl rfl rfl<|mv0 rfl rfl ?_
 cases c2269:!t2257
 ·
  have H:=H.cf c2269
  refine sk rfl rfl<|sk rfl rfl<|sk rfl rfl<|sk rfl rfl<|sku rfl rfl<|sku rfl rfl<|sku rfl rfl<|sku rfl rfl<|sk rfl rfl<|pf0 rfl rfl rfl<|as0 rfl rfl<|.fin ?_
  cases H.out; exact r1 i2 rfl (.cons (res_tmp rfl) .nil)
 have H:=H.ct c2269
 refine fb rfl (gg rfl) rfl fa46_0<|ld 0 rfl (gg rfl) rfl sc4 rfl rfl<|ung rfl rfl rfl (run_not _)<|mvg rfl rfl rfl ?_
 cases c2270:!a0.fAck
 rotate_left
 ·
  have H:=H.ct c2270
  refine sk rfl rfl<|sk rfl rfl<|sk rfl rfl<|sk rfl rfl<|ptg rfl rfl rfl rfl<|pt0 rfl rfl rfl<|as0 rfl rfl<|.fin ?_
  cases H.out; exact r1 i2 rfl (.cons (res_tmp rfl) .nil)
 have H:=H.cf c2270
 refine fb rfl (gg rfl) rfl fa46_4<|ld 0 rfl (gg rfl) rfl sc23 rfl rfl<|Dv.lenl rfl (gg rfl) rfl Tryz.underlying23<|bng rfl rfl rfl rfl run_eq<|pfg rfl rfl rfl rfl<|pt0 rfl rfl rfl<|as0 rfl rfl<|.fin ?_
 cases H.out; exact r1 i2 rfl (.cons (res_tmp rfl) .nil)
end Go.Proofs.YtmmaijneehmbgaaGreat
