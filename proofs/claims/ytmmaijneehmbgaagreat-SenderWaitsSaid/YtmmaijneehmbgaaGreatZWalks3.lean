import Derived.Test.YtmmaijneehmbgaaGreatZWalks2
import Derived.Test.YtmmaijneehmbgaaGreatConQ
import Derived.Test.YtmmaijneehmbgaaGreatConA6
import Derived.Eval
set_option linter.all false
set_option maxRecDepth 10000
set_option maxHeartbeats 20000000
namespace Go.Proofs.YtmmaijneehmbgaaGreat
open Go Go.Sp
theorem r05_Backoff.c {a0:Int} {r:Int} (h:r05_Backoff.f a0 = some r):Pt Tryz.prog 32 [vI a0] (vI r):=by
 unfold r05_Backoff.f at h
 refine pb Tryz.func32 Tryz.ntmps32 h fun R0 F H=>?_
 refine WP.seq<|rg 1 0<|as0 rfl rfl<|.fin<|WP.seq<|WP.seq<|rg 2 0<|mv0 rfl rfl<|bn0 rfl rfl rfl run_lt<|.fin<|cd H rfl (fun _ H=>?_) (fun _ H=>?_)
 ·
  refine WP.seq<|rg 1 0<|as0 rfl rfl<|.fin ?_
  cases H.out; exact r0 i2 rfl (.cons (res_tmp rfl) .nil)
 refine WP.skip<|WP.seq<|WP.seq<|rg 2 0<|mv0 rfl rfl<|bn0 rfl rfl rfl run_gt<|.fin<|cd H rfl (fun _ H=>?_) (fun _ H=>?_)
 ·
  refine WP.seq<|rg 1 0<|as0 rfl rfl<|.fin ?_
  cases H.out; exact r0 i2 rfl (.cons (res_tmp rfl) .nil)
 refine WP.skip<|WP.seq<|rg 5 0<|Dv.lit (intK .i64) ([1,2,4,8]:List Int) (css:=[[vI 1],[vI 2],[vI 4],[vI 8]]) rfl trivial Tryz.underlying61 Tryz.underlying3 c3 z3 rfl (by decide) (by decide) rfl ⟨(cells_one (one_eq rfl)),⟨(cells_one (one_eq rfl)),⟨(cells_one (one_eq rfl)),⟨(cells_one (one_eq rfl)),trivial⟩⟩⟩⟩ rfl rfl rfl<|mv0 rfl rfl<|gr H fun g1760 H=>Dv.ixr rfl trivial rfl rfl Tryz.underlying61 Tryz.underlying3 c3 g1760.1 g1760.2<|ldR rfl trivial rfl sc3 rfl<|as0 rfl rfl<|.fin ?_
 cases H.out; exact r0 i2 rfl (.cons (res_tmp rfl) .nil)
theorem sender_Sender_Idle.c {a0:SSnd} {v0_0 v0_1 v0_2 v0_3 v0_4:OV} {b0_ d0_0 d0_1:Nat} {e0_0:v0_0.1 = .pointer (some ⟨d0_0,0,none⟩)} {e0_1:v0_1.1 = .pointer (some ⟨d0_1,0,none⟩)} {r:Bool} (h:sender_Sender_Idle.f a0 = some r):Tr Tryz.prog 31 [eq (.pointer (some ⟨b0_,0,none⟩))] [blk b0_ 40 [eq v0_0.1,vS a0.fself,vS a0.fto,eq v0_1.1,eq v0_2.1],blk d0_0 107 [vI a0.fQueue.fmost,eq v0_3.1,eq v0_4.1,vI a0.fQueue.flost],own EKey.K v0_3.1 a0.fQueue.fkeys,mp EKey.kv (fun x:Edu=>agg (Edu.enc x)) v0_4.1 a0.fQueue.fat,blk d0_1 173 [vI a0.fids.fn.fv,vI a0.fids.fmost],optO Fly.O v0_2 a0.fair] (γ:=Unit) (fun _=>True) (fun g=>vB r) (fun g=>[blk b0_ 40 [eq v0_0.1,vS a0.fself,vS a0.fto,eq v0_1.1,eq v0_2.1],blk d0_0 107 [vI a0.fQueue.fmost,eq v0_3.1,eq v0_4.1,vI a0.fQueue.flost],own EKey.K v0_3.1 a0.fQueue.fkeys,mp EKey.kv (fun x:Edu=>agg (Edu.enc x)) v0_4.1 a0.fQueue.fat,blk d0_1 173 [vI a0.fids.fn.fv,vI a0.fids.fmost],optO Fly.O v0_2 a0.fair]):=by
 unfold sender_Sender_Idle.f at h
 refine Tr.body Tryz.func31 (c:=_) rfl Tryz.ntmps31 (Nat.le_of_ble_eq_true rfl) fun R0 F=>?_
 replace h:=Gets.of h
 have H:=h
 clear h
 refine WP.seq<|rg 1 0<|as0 rfl rfl<|.fin<|WP.seq<|rg 14 0<|mv0 rfl rfl<|Dv.nilp rfl trivial rfl<|fb rfl trivial rfl fa40_4<|ld 0 rfl trivial rfl sc38 rfl rfl<|Dv.oeq0 (fun _=>Fly.nn) rfl trivial rfl rfl Tryz.underlying38 (mem_at 5 rfl)<|mv0 rfl rfl ?_
 rcases bem a0.fair.isNone with c2017 | c2017
 ·
  have H:=H.cf c2017
  refine Dv.gh (gh_sh 7 c2017 rfl) (fun _ _=>?_)
  refine Dv.gh (gh_sh 8 c2017 rfl) (fun _ _=>?_)
  refine sk rfl rfl<|sk rfl rfl<|sk rfl rfl<|sk rfl rfl<|sk rfl rfl<|sk rfl rfl<|pf0 rfl rfl rfl<|as0 rfl rfl<|.fin ?_
  cases H.out; exact rt i2 rfl () 6 [0,1,2,3,4,5] 0 (.cons (res_tmp rfl) .nil)
 have H:=H.ct c2017
 refine Dv.gh (gh_sh 7 c2017 rfl) (fun _ _=>?_)
 refine Dv.gh (gh_sh 8 c2017 rfl) (fun _ _=>?_)
 refine mvg rfl rfl rfl<|Dv.nilp rfl (gg rfl) rfl<|fb rfl (gg rfl) rfl fa40_0<|ld 0 rfl (gg rfl) rfl sc36 rfl rfl<|el H fun t2018 h2019 H=>cll 6 [1,2,3,0,4,5] cal50 (Tr.weak (queue_Queue_Len.c h2019 (b0_:=d0_0) (v0_0:=v0_3) (v0_1:=v0_4)) (.cons (wk_ptr e0_0) .nil)) ?_
 refine bng rfl rfl rfl rfl run_eq<|pt0 rfl rfl rfl<|as0 rfl rfl<|.fin ?_
 cases H.out; exact rt i2 rfl () 6 [0,1,2,3,4,5] 0 (.cons (res_tmp rfl) .nil)
theorem sender_Sender_Tries.c {a0:SSnd} {v0_0 v0_1 v0_2 v0_3 v0_4:OV} {b0_ d0_0 d0_1:Nat} {e0_0:v0_0.1 = .pointer (some ⟨d0_0,0,none⟩)} {e0_1:v0_1.1 = .pointer (some ⟨d0_1,0,none⟩)} {r:Int} (h:sender_Sender_Tries.f a0 = some r):Tr Tryz.prog 33 [eq (.pointer (some ⟨b0_,0,none⟩))] [blk b0_ 40 [eq v0_0.1,vS a0.fself,vS a0.fto,eq v0_1.1,eq v0_2.1],blk d0_0 107 [vI a0.fQueue.fmost,eq v0_3.1,eq v0_4.1,vI a0.fQueue.flost],own EKey.K v0_3.1 a0.fQueue.fkeys,mp EKey.kv (fun x:Edu=>agg (Edu.enc x)) v0_4.1 a0.fQueue.fat,blk d0_1 173 [vI a0.fids.fn.fv,vI a0.fids.fmost],optO Fly.O v0_2 a0.fair] (γ:=Unit) (fun _=>True) (fun g=>vI r) (fun g=>[blk b0_ 40 [eq v0_0.1,vS a0.fself,vS a0.fto,eq v0_1.1,eq v0_2.1],blk d0_0 107 [vI a0.fQueue.fmost,eq v0_3.1,eq v0_4.1,vI a0.fQueue.flost],own EKey.K v0_3.1 a0.fQueue.fkeys,mp EKey.kv (fun x:Edu=>agg (Edu.enc x)) v0_4.1 a0.fQueue.fat,blk d0_1 173 [vI a0.fids.fn.fv,vI a0.fids.fmost],optO Fly.O v0_2 a0.fair]):=by
 unfold sender_Sender_Tries.f at h
 refine Tr.body Tryz.func33 (c:=_) rfl Tryz.ntmps33 (Nat.le_of_ble_eq_true rfl) fun R0 F=>?_
 replace h:=Gets.of h
 have H:=h
 clear h
 refine WP.seq<|rg 1 0<|as0 rfl rfl<|.fin<|WP.seq<|WP.seq<|rg 5 0<|mv0 rfl rfl<|Dv.nilp rfl trivial rfl<|fb rfl trivial rfl fa40_4<|ld 0 rfl trivial rfl sc38 rfl rfl<|Dv.oeq0 (fun _=>Fly.nn) rfl trivial rfl rfl Tryz.underlying38 (mem_at 5 rfl)<|.fin<|cd H rfl (fun _ H=>?_) (fun c2020 H=>?_)
 ·
  refine WP.seq<|rg 1 0<|as0 rfl rfl<|.fin ?_
  cases H.out; exact rt i2 rfl () 6 [0,1,2,3,4,5] 0 (.cons (res_tmp rfl) .nil)
 refine wg (opt_some 5 rfl c2020) fun _ _=>?_
 refine WP.skip<|WP.seq<|rg 8 0<|mv0 rfl rfl<|Dv.nilp rfl trivial rfl<|fb rfl trivial rfl fa40_4<|ld 1 rfl trivial rfl sc38 rfl rfl<|Dv.nilA Fly.nn rfl trivial rfl (mem_at 0 rfl)<|vg (Fly.opn 0 rfl) fun g2021 h2022=>?_
 refine fp h2022 rfl trivial rfl fa111_1<|ld 0 rfl trivial rfl sc3 rfl rfl<|as0 rfl rfl<|.fin<|wg (Fly.shut (p:=v0_2) (m:=a0.fair.getD default) g2021 h2022 (pm 6 [0,1,2,3,4,5])) fun _ _=>?_
 refine wg (opt_back0 (O:=Fly.O) (o:=a0.fair) c2020 0 rfl) fun _ _=>?_
 cases H.out; exact rt i2 rfl () 6 [1,2,3,4,5,0] 0 (.cons (res_tmp rfl) .nil)
end Go.Proofs.YtmmaijneehmbgaaGreat
