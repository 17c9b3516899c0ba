import Derived.Test.YtmmaijneehmbgaaGreatZWalks2
import Derived.Test.YtmmaijneehmbgaaGreatConQ
import Derived.Test.YtmmaijneehmbgaaGreatConA6
import Derived.Eval
set_option linter.all false
set_option autoImplicit true
set_option maxRecDepth 10000
set_option maxHeartbeats 20000000
namespace Go.Proofs.YtmmaijneehmbgaaGreat
open Go Go.Sp Tryz
theorem r16_Passes.c (h:r16_Passes.f k a0 a1 a2=some r):Pt prog 54 [agg (RView.enc a0),vS a1,agg (Edu.enc a2)] (vB r):=by
 unfold r16_Passes.f at h
 refine pb func54 ntmps54 h fun R0 F H=>?_
 refine WP.seq<|rg 3 3<|Dv.box rfl trivial rfl cA nofun fun ba=>Dv.box rfl trivial rfl cA nofun fun bc=>as0 rfl rfl<|.fin<|WP.seq<|rg 3 0<|lds 0 rfl trivial rfl sg32 rfl rfl<|el H fun ta haa H=>cl rfl cal86 rfl (r03_May.c haa)<|as0 rfl rfl<|.fin<|WP.seq<|WP.seq<|rg 2 0<|mv0 rfl rfl<|un0 rfl rfl (run_not _)<|.fin<|cd H rfl (fun _ H=>?_) (fun _ H=>?_)
 ·
  refine WP.seq<|rg 1 0<|as0 rfl rfl<|.fin ?_
  cases H.out; exact r2 i2 rfl (.cons (res_tmp rfl) .nil)
 refine WP.skip<|WP.seq<|WP.seq<|rg 3 0<|fb rfl trivial rfl fa32_0<|ld 0 rfl trivial rfl sc3 rfl rfl<|bn0 rfl rfl rfl run_eq<|.fin<|cd H rfl (fun _ H=>?_) (fun _ H=>?_)
 ·
  refine WP.seq<|rg 7 8<|lds 1 rfl trivial rfl sg44 rfl rfl<|fb rfl trivial rfl fa32_2<|ld 0 rfl trivial rfl sc9 rfl rfl<|el H fun tc hac H=>cx 2 [0,1] cal88 (r10_Peers.c hac) nofun fun ga _=>?_
  refine mv0 rfl rfl<|el H fun te had H=>cll (B:=[own strK ga.1 tc]) 3 [0,1,2] cal87 (Pt.lend _ (r09_Has.c had) (.cons (lt_own (mem_at 0 rfl)) (.cons lt_id .nil)) flat_eq) ?_
  refine as0 rfl rfl<|.fin ?_
  cases H.out; exact r3 i2 rfl (.cons (res_tmp rfl) .nil)
 refine WP.skip<|WP.seq<|rg 7 8<|lds 1 rfl trivial rfl sg44 rfl rfl<|fb rfl trivial rfl fa32_1<|ld 0 rfl trivial rfl sc9 rfl rfl<|el H fun tf hae H=>cx 2 [0,1] cal89 (r10_Servers.c hae) nofun fun gb _=>?_
 refine mv0 rfl rfl<|el H fun tg haf H=>cll (B:=[own strK gb.1 tf]) 3 [0,1,2] cal87 (Pt.lend _ (r09_Has.c haf) (.cons (lt_own (mem_at 0 rfl)) (.cons lt_id .nil)) flat_eq) ?_
 refine as0 rfl rfl<|.fin ?_
 cases H.out; exact r3 i2 rfl (.cons (res_tmp rfl) .nil)
theorem r16_Choose.c (h:r16_Choose.f k a0 a1 a2=some r):Pt prog 17 [agg (RView.enc a0),vS a1,sl Edu.K a2] (sl Edu.K r):=by
 unfold r16_Choose.f at h
 refine pb func17 ntmps17 h fun R0 F H=>?_
 refine WP.seq<|rg 2 1<|Dv.box rfl trivial rfl cA nofun fun ba=>as0 rfl rfl<|.fin<|WP.seq<|rg 1 0<|as0 rfl rfl<|.fin<|WP.seqn H (fun qa:(Int×Bool×(List Edu))×OV=>qa.1) (fun qa:(Int×Bool×(List Edu))×OV=>[(0,agg (RView.enc a0)),(1,vS a1),(2,sl Edu.K a2),(3,eq (.pointer (some ⟨ba,0,none⟩))),(6,eq (.slice none 0 0)),(7,eq qa.2.1),(8,vI qa.1.1),(13,vB qa.1.2.1)]) (fun qa:(Int×Bool×(List Edu))×OV=>[blk ba 44 (RView.enc a0),own Edu.K qa.2.1 qa.1.2.2]++F) (fun qa H=>?_) (fun H=>?_)
 ·
  obtain ⟨pa,va⟩:=qa
  refine WP.seq<|rg 2 0<|mv0 rfl rfl<|as0 rfl rfl<|.fin<|WP.gh (gh_frz (E':=[(6,sl Edu.K pa.2.2)]) (l':=[blk ba 44 (RView.enc a0)]++F) 1 rfl (cve_cons rfl cv_eq cve_nil) (all2_app (.cons cva_id .nil) fun _=>cva_id)) (fun _ _=>?_)
  cases H.out; exact r1 i2 rfl (.cons (res_tmp rfl) .nil)
 refine WP.seq<|rg 1 0<|as0 rfl rfl<|.fin<|WP.block<|wg (st_nil Edu.K none) fun _ _=>?_
 refine wg (sg 2 [1,0] 0) fun _ _=>?_
 refine lp (fun j_ (pc:Int×(List Edu)×OV)=>r16_Choose.l0 k a0 a1 a2 j_ pc.1 pc.2.1) (0,([]:List Edu),nilV) H (fun pc=>[(0,agg (RView.enc a0)),(1,vS a1),(2,sl Edu.K a2),(3,eq (.pointer (some ⟨ba,0,none⟩))),(6,eq (.slice none 0 0)),(7,eq pc.2.2.1),(8,vI pc.1)]) (fun pc=>[blk ba 44 (RView.enc a0),own Edu.K pc.2.2.1 pc.2.1]++F) ?_
 rintro j_ ⟨xa,xb,vb⟩ H
 rcases j_ with _ | ja
 ·
  exact (Gets.no H).elim
 try dsimp only at H
 rw [r16_Choose.l0] at H
 refine WP.seq<|WP.seq<|rg 4 0<|mv0 rfl rfl<|mv0 rfl rfl<|Dv.lenl rfl trivial rfl underlying23<|bn0 rfl rfl rfl run_lt<|.fin<|cd H rfl (fun _ H=>?_) (fun _ H=>?_)
 rotate_left
 ·
  refine WP.exit ?_
  have H:=H.out
  exact jn ((xa,decide (xa<(a2.length:Int)),xb),vb) H
 refine WP.skip<|WP.seq<|WP.block<|WP.seq<|dg Tryz.checked.mixed 8 0<|lds 0 rfl trivial rfl sg44 rfl rfl<|mv0 rfl rfl<|mv0 rfl rfl<|mv0 rfl rfl<|gr H fun ga H=>Dv.ixr rfl trivial rfl rfl underlying23 underlying32 c32 ga.1 ga.2<|ldsR rfl trivial rfl sg32 rfl<|el H fun ta haa H=>cl rfl cal54 rfl (r16_Passes.c haa)<|as0 rfl rfl<|.fin<|WP.seq<|rg 1 0<|mv0 rfl rfl<|.fin<|cd H rfl (fun _ H=>?_) (fun _ H=>?_)
 rotate_left
 ·
  exact WP.skip<|rg 3 0<|mv0 rfl rfl<|bn0 rfl rfl rfl run_add<|as0 rfl rfl<|.fin<|bk ja (w64 (xa+1),xb,vb) H
 refine rg 8 64<|mv0 rfl rfl<|mv0 rfl rfl<|mv0 rfl rfl<|gr H fun gb H=>Dv.ixr rfl trivial rfl rfl underlying23 underlying32 c32 gb.1 gb.2<|ldsR rfl trivial rfl sg32 rfl<|Dv.lit Edu.K ([Edu.K.at a2 xa]:List Edu) (css:=[Edu.enc (Edu.K.at a2 xa)]) rfl trivial underlying23 underlying32 c32 z32 rfl (by decide) (by decide) rfl ⟨(cells_agg (Edu.K.one _)),trivial⟩ rfl rfl rfl<|gr H fun gi H=>ap Edu.K 1 ([Edu.K.at a2 xa]:List Edu) src_sl underlying23 (.inr ⟨_,underlying23⟩) inf32 gi nofun fun vd=>?_
 exact as0 rfl rfl<|.fin<|rg 3 0<|mv0 rfl rfl<|bn0 rfl rfl rfl run_add<|as0 rfl rfl<|.fin<|bk ja (w64 (xa+1),xb++([Edu.K.at a2 xa]:List Edu),vd) H
theorem r05_Backoff.c (h:r05_Backoff.f a0=some r):Pt prog 32 [vI a0] (vI r):=by
 unfold r05_Backoff.f at h
 refine pb func32 ntmps32 h fun R0 F H=>?_
 refine WP.seq<|rg 1 0<|as0 rfl rfl<|.fin<|WP.seq<|WP.seq<|rg 2 0<|mv0 rfl rfl<|bn0 rfl rfl rfl run_lt<|.fin<|cd H rfl (fun _ H=>?_) (fun _ H=>?_)
 ·
  refine WP.seq<|rg 1 0<|as0 rfl rfl<|.fin ?_
  cases H.out; exact r0 i2 rfl (.cons (res_tmp rfl) .nil)
 refine WP.skip<|WP.seq<|WP.seq<|rg 2 0<|mv0 rfl rfl<|bn0 rfl rfl rfl run_gt<|.fin<|cd H rfl (fun _ H=>?_) (fun _ H=>?_)
 ·
  refine WP.seq<|rg 1 0<|as0 rfl rfl<|.fin ?_
  cases H.out; exact r0 i2 rfl (.cons (res_tmp rfl) .nil)
 refine WP.skip<|WP.seq<|rg 5 0<|Dv.lit (intK .i64) ([1,2,4,8]:List Int) (css:=[[vI 1],[vI 2],[vI 4],[vI 8]]) rfl trivial underlying61 underlying3 c3 z3 rfl (by decide) (by decide) rfl ⟨(cells_one (one_eq rfl)),⟨(cells_one (one_eq rfl)),⟨(cells_one (one_eq rfl)),⟨(cells_one (one_eq rfl)),trivial⟩⟩⟩⟩ rfl rfl rfl<|mv0 rfl rfl<|gr H fun ga H=>Dv.ixr rfl trivial rfl rfl underlying61 underlying3 c3 ga.1 ga.2<|ldR rfl trivial rfl sc3 rfl<|as0 rfl rfl<|.fin ?_
 cases H.out; exact r0 i2 rfl (.cons (res_tmp rfl) .nil)
theorem r17_Keep.c (h:r17_Keep.f k a0 a1=some r):Pt prog 68 [agg (RQue.enc a0),sl Edu.K a1] (agg (RQue.enc r)):=by
 unfold r17_Keep.f at h
 refine pb func68 ntmps68 h fun R0 F H=>?_
 refine WP.seq<|rg 2 3<|Dv.box rfl trivial rfl cA nofun fun ba=>al rfl trivial zc77 nofun fun bc=>.fin<|WP.seq<|rg 1 0<|as0 rfl rfl<|.fin<|WP.seqn H (fun qa:(Int×Bool×(List Edu))×OV=>qa.1) (fun qa:(Int×Bool×(List Edu))×OV=>[(0,agg (RQue.enc a0)),(1,sl Edu.K a1),(2,eq (.pointer (some ⟨ba,0,none⟩))),(4,eq (.pointer (some ⟨bc,0,none⟩))),(5,eq qa.2.1),(6,vI qa.1.1),(13,vB qa.1.2.1)]) (fun qa:(Int×Bool×(List Edu))×OV=>[blk bc 77 [vI 0,eq (.slice none 0 0),vI 0],blk ba 77 (RQue.enc a0),own Edu.K qa.2.1 qa.1.2.2]++F) (fun qa H=>?_) (fun H=>?_)
 ·
  obtain ⟨pa,va⟩:=qa
  refine WP.seq<|rg 7 64<|fb rfl trivial rfl fa77_0<|ld 1 rfl trivial rfl sc3 rfl rfl<|mv0 rfl rfl<|fb rfl trivial rfl fa77_2<|ld 1 rfl trivial rfl sc3 rfl rfl<|Dv.bld (qs:=[vI a0.fMost,eq va.1,vI a0.fLost]) (css:=[[vI a0.fMost],[eq va.1],[vI a0.fLost]]) rfl trivial underlying77 pl77 z77 rfl ⟨(cells_one (one_eq rfl)),⟨(cells_one one_ov),⟨(cells_one (one_eq rfl)),trivial⟩⟩⟩ rfl rfl<|sx 0 rfl trivial rfl rfl cA sz77 rfl rfl rfl nofun ?_
  refine .fin<|WP.gh (gh_frz (E':=[(4,eq (.pointer (some ⟨bc,0,none⟩)))]) (l':=[blk bc 77 [vI a0.fMost,sl Edu.K pa.2.2,vI a0.fLost],blk ba 77 (RQue.enc a0)]++F) 2 rfl (cve_cons rfl cv_id cve_nil) (all2_app (.cons (cva_blk (.cons cv_id (.cons cv_eq (.cons cv_id .nil)))) (.cons cva_id .nil)) fun _=>cva_id)) (fun _ _=>?_)
  cases H.out; exact r2 i2 rfl (.cons (res_cells rfl underlying77 rfl c77 (mem_at 0 rfl) rfl) .nil)
 refine WP.seq<|rg 1 0<|as0 rfl rfl<|.fin<|WP.block<|wg (st_nil Edu.K none) fun _ _=>?_
 refine wg (sg 3 [1,2,0] 0) fun _ _=>?_
 refine lp (fun j_ (pc:Int×(List Edu)×OV)=>r17_Keep.l0 k a0 a1 j_ pc.1 pc.2.1) (0,([]:List Edu),nilV) H (fun pc=>[(0,agg (RQue.enc a0)),(1,sl Edu.K a1),(2,eq (.pointer (some ⟨ba,0,none⟩))),(4,eq (.pointer (some ⟨bc,0,none⟩))),(5,eq pc.2.2.1),(6,vI pc.1)]) (fun pc=>[blk bc 77 [vI 0,eq (.slice none 0 0),vI 0],blk ba 77 (RQue.enc a0),own Edu.K pc.2.2.1 pc.2.1]++F) ?_
 rintro j_ ⟨xa,xb,vb⟩ H
 rcases j_ with _ | ja
 ·
  exact (Gets.no H).elim
 try dsimp only at H
 rw [r17_Keep.l0] at H
 refine WP.seq<|WP.seq<|rg 5 0<|mv0 rfl rfl<|fb rfl trivial rfl fa77_1<|ld 1 rfl trivial rfl sc23 rfl rfl<|Dv.lenl rfl trivial rfl underlying23<|bn0 rfl rfl rfl run_lt<|.fin<|cd H rfl (fun _ H=>?_) (fun _ H=>?_)
 rotate_left
 ·
  refine WP.exit ?_
  have H:=H.out
  exact jn ((xa,decide (xa<(a0.fL.length:Int)),xb),vb) H
 refine WP.skip<|WP.seqn H (fun qb:(Bool×Int×Bool×Bool×(List Edu))×OV=>qb.1) (fun qb:(Bool×Int×Bool×Bool×(List Edu))×OV=>[(0,agg (RQue.enc a0)),(1,sl Edu.K a1),(2,eq (.pointer (some ⟨ba,0,none⟩))),(4,eq (.pointer (some ⟨bc,0,none⟩))),(5,eq qb.2.1),(6,vI xa),(7,vB qb.1.1),(8,vI qb.1.2.1),(13,vB (decide (xa<(a0.fL.length:Int)))),(19,vB qb.1.2.2.1),(35,vB qb.1.2.2.2.1)]) (fun qb:(Bool×Int×Bool×Bool×(List Edu))×OV=>[blk bc 77 [vI 0,eq (.slice none 0 0),vI 0],blk ba 77 (RQue.enc a0),own Edu.K qb.2.1 qb.1.2.2.2.2]++F) (fun qb H=>?_) (fun H=>?_)
 ·
  obtain ⟨pd,vd⟩:=qb
  exact rg 3 0<|mv0 rfl rfl<|bn0 rfl rfl rfl run_add<|as0 rfl rfl<|.fin<|bk ja (w64 (xa+1),pd.2.2.2.2,vd) H
 refine WP.block<|WP.seq<|rg 1 0<|as0 rfl rfl<|.fin<|WP.seqn H id (fun pe:Bool×Int×Bool=>[(0,agg (RQue.enc a0)),(1,sl Edu.K a1),(2,eq (.pointer (some ⟨ba,0,none⟩))),(4,eq (.pointer (some ⟨bc,0,none⟩))),(5,eq vb.1),(6,vI xa),(7,vB pe.1),(8,vI pe.2.1),(13,vB (decide (xa<(a0.fL.length:Int)))),(19,vB pe.2.2)]) (fun pe:Bool×Int×Bool=>[blk bc 77 [vI 0,eq (.slice none 0 0),vI 0],blk ba 77 (RQue.enc a0),own Edu.K vb.1 xb]++F) (fun pe H=>?_) (fun H=>?_)
 ·
  refine WP.seq<|rg 1 0<|mv0 rfl rfl<|.fin<|cd H rfl (fun _ H=>?_) (fun _ H=>?_)
  rotate_left
  ·
   refine WP.skip ?_
   have H:=H.out
   exact jn ((pe.1,pe.2.1,pe.2.2,pe.1,xb),vb) H
  refine rg 9 128<|mv0 rfl rfl<|fb rfl trivial rfl fa77_1<|ld 1 rfl trivial rfl sc23 rfl rfl<|mv0 rfl rfl<|gr H fun ga H=>Dv.ixr rfl trivial rfl rfl underlying23 underlying32 c32 ga.1 ga.2<|ldsR rfl trivial rfl sg32 rfl<|Dv.lit Edu.K ([Edu.K.at a0.fL xa]:List Edu) (css:=[Edu.enc (Edu.K.at a0.fL xa)]) rfl trivial underlying23 underlying32 c32 z32 rfl (by decide) (by decide) rfl ⟨(cells_agg (Edu.K.one _)),trivial⟩ rfl rfl rfl<|gr H fun gb H=>ap Edu.K 2 ([Edu.K.at a0.fL xa]:List Edu) src_sl underlying23 (.inr ⟨_,underlying23⟩) inf32 gb nofun fun vh=>?_
  refine as0 rfl rfl<|.fin ?_
  have H:=H.out
  exact jn ((pe.1,pe.2.1,pe.2.2,pe.1,xb++([Edu.K.at a0.fL xa]:List Edu)),vh) H
 refine WP.seq<|rg 1 0<|as0 rfl rfl<|.fin<|WP.block<|wg (sg 3 [0,1,2] 0) fun _ _=>?_
 refine lp (fun j_ (pf:Bool×Int)=>r17_Keep.l1 k a0 a1 xa j_ pf.1 pf.2) (false,0) H (fun pf=>[(0,agg (RQue.enc a0)),(1,sl Edu.K a1),(2,eq (.pointer (some ⟨ba,0,none⟩))),(4,eq (.pointer (some ⟨bc,0,none⟩))),(5,eq vb.1),(6,vI xa),(7,vB pf.1),(8,vI pf.2),(13,vB (decide (xa<(a0.fL.length:Int))))]) (fun pf=>[blk bc 77 [vI 0,eq (.slice none 0 0),vI 0],blk ba 77 (RQue.enc a0),own Edu.K vb.1 xb]++F) ?_
 rintro j_ ⟨xc,xd⟩ H
 rcases j_ with _ | jc
 ·
  exact (Gets.no H).elim
 try dsimp only at H
 rw [r17_Keep.l1] at H
 refine WP.seq<|WP.seq<|rg 4 0<|mv0 rfl rfl<|mv0 rfl rfl<|Dv.lenl rfl trivial rfl underlying23<|bn0 rfl rfl rfl run_lt<|.fin<|cd H rfl (fun _ H=>?_) (fun _ H=>?_)
 rotate_left
 ·
  refine WP.exit ?_
  have H:=H.out
  exact jn (xc,xd,decide (xd<(a1.length:Int))) H
 refine WP.skip<|WP.seq<|WP.block<|dg Tryz.checked.mixed 14 0<|mv0 rfl rfl<|mv0 rfl rfl ?_
 cases cc:xc
 rotate_left
 ·
  have H:=H.ct cc
  exact sk rfl rfl<|sk rfl rfl<|sk rfl rfl<|sk rfl rfl<|sk rfl rfl<|sk rfl rfl<|sk rfl rfl<|sk rfl rfl<|sk rfl rfl<|sk rfl rfl<|pt0 rfl rfl rfl<|as0 rfl rfl<|.fin<|rg 3 0<|mv0 rfl rfl<|bn0 rfl rfl rfl run_add<|as0 rfl rfl<|.fin<|bk jc (true,w64 (xd+1)) H
 have H:=H.cf cc
 exact mvg rfl rfl rfl<|mvg rfl rfl rfl<|gr H fun gi H=>Dv.ixr rfl (gg rfl) rfl rfl underlying23 underlying32 c32 gi.1 gi.2<|ldsR rfl (gg rfl) rfl sg32 rfl<|fb rfl (gg rfl) rfl fa77_1<|ld 1 rfl (gg rfl) rfl sc23 rfl rfl<|mvg rfl rfl rfl<|gr H fun gj H=>Dv.ixr rfl (gg rfl) rfl rfl underlying23 underlying32 c32 gj.1 gj.2<|ldsR rfl (gg rfl) rfl sg32 rfl<|Dv.eqs [.int .i64 ((Edu.K.at a1 xd).fKind),.string ((Edu.K.at a1 xd).fRoom),.string ((Edu.K.at a1 xd).fUser),.string ((Edu.K.at a1 xd).fEvent),.string ((Edu.K.at a1 xd).fThread),.bool ((Edu.K.at a1 xd).fPrivate),.bool ((Edu.K.at a1 xd).fOn),.int .i64 ((Edu.K.at a1 xd).fSpan),.int .i64 ((Edu.K.at a1 xd).fState),.int .i64 ((Edu.K.at a1 xd).fTick),.int .i64 ((Edu.K.at a1 xd).fStamp)] [.int .i64 ((Edu.K.at a0.fL xa).fKind),.string ((Edu.K.at a0.fL xa).fRoom),.string ((Edu.K.at a0.fL xa).fUser),.string ((Edu.K.at a0.fL xa).fEvent),.string ((Edu.K.at a0.fL xa).fThread),.bool ((Edu.K.at a0.fL xa).fPrivate),.bool ((Edu.K.at a0.fL xa).fOn),.int .i64 ((Edu.K.at a0.fL xa).fSpan),.int .i64 ((Edu.K.at a0.fL xa).fState),.int .i64 ((Edu.K.at a0.fL xa).fTick),.int .i64 ((Edu.K.at a0.fL xa).fStamp)] rfl (gg rfl) rfl rfl rfl rfl eg32 (fun _=>equal_of 2 (by decide) (fun _=>eqt32 (Edu.K.at a1 xd) (Edu.K.at a0.fL xa)))<|pf0 rfl rfl rfl<|as0 rfl rfl<|.fin<|rg 3 0<|mv0 rfl rfl<|bn0 rfl rfl rfl run_add<|as0 rfl rfl<|.fin<|bk jc (decide (Edu.K.at a1 xd=Edu.K.at a0.fL xa),w64 (xd+1)) H
theorem r17_Take.c (h:r17_Take.f a0 a1=some r):Pt prog 69 [agg (RQue.enc a0),vI a1] (tup [agg (RQue.enc r.1),sl Edu.K r.2]):=by
 unfold r17_Take.f at h
 refine pb func69 ntmps69 h fun R0 F H=>?_
 refine WP.seq<|rg 3 3<|Dv.box rfl trivial rfl cA nofun fun ba=>al rfl trivial zc77 nofun fun bc=>as0 rfl rfl<|.fin<|WP.seq<|rg 7 0<|mv0 rfl rfl<|Dv.maxi rfl trivial rfl rfl<|fb rfl trivial rfl fa77_1<|ld 1 rfl trivial rfl sc23 rfl rfl<|Dv.lenl rfl trivial rfl underlying23<|Dv.mini rfl trivial rfl rfl<|as0 rfl rfl<|.fin<|WP.seq<|dg Tryz.checked.mixed 15 8192<|fb rfl trivial rfl fa77_0<|ld 1 rfl trivial rfl sc3 rfl rfl<|fb rfl trivial rfl fa77_1<|ld 1 rfl trivial rfl sc23 rfl rfl<|mv0 rfl rfl<|gr H fun ga H=>Dv.sls rfl trivial rfl underlying23 underlying32 c32 (bdE_some rfl ga.1) bdE_none ga.2.1 ga.2.2<|fb rfl trivial rfl fa77_2<|ld 1 rfl trivial rfl sc3 rfl rfl<|Dv.bld (qs:=[vI a0.fMost,sl Edu.K ((a0.fL.take a0.fL.length).drop ((min (max a1 0) (a0.fL.length:Int)).toNat)),vI a0.fLost]) (css:=[[vI a0.fMost],[sl Edu.K ((a0.fL.take a0.fL.length).drop ((min (max a1 0) (a0.fL.length:Int)).toNat))],[vI a0.fLost]]) rfl trivial underlying77 pl77 z77 rfl ⟨(cells_one (one_eq rfl)),⟨(cells_one one_sl),⟨(cells_one (one_eq rfl)),trivial⟩⟩⟩ rfl rfl<|fb rfl trivial rfl fa77_1<|ld 1 rfl trivial rfl sc23 rfl rfl<|mv0 rfl rfl<|gr H fun gb H=>Dv.sls rfl trivial rfl underlying23 underlying32 c32 bdE_none (bdE_some rfl gb.1) gb.2.1 gb.2.2<|sx 0 rfl trivial rfl rfl cA sz77 rfl rfl rfl (fun _=>(pend_in (fun _=>trivial) (pend_in (fun _=>trivial) (pend_in (fun _=>(mem_at 1 rfl)) (pend_in (fun _=>trivial) (pend_by (by kernel_rfl) (pend_by (by kernel_rfl) (pend_by (by kernel_rfl) (pend_by (by kernel_rfl) (pend_by (by kernel_rfl) (pend_by (by kernel_rfl) (pend_by (by kernel_rfl) (pend_by (by kernel_rfl) (pend_by (by kernel_rfl) pend_nil)))))))))))))) ?_
 refine as0 rfl rfl<|.fin ?_
 cases H.out; exact r2 i2 rfl (.cons (res_cells rfl underlying77 rfl c77 (mem_at 0 rfl) rfl) (.cons (res_tmp rfl) .nil))
theorem r18_Send.c (h:r18_Send.f k a0 a1 a2=some r):Pt prog 35 [agg (RSnd.enc a0),agg (RView.enc a1),vI a2] (tup [agg (RSnd.enc r.1),agg (Par.enc r.2.1),vB r.2.2.1,vI r.2.2.2]):=by
 unfold r18_Send.f at h
 refine pb func35 ntmps35 h fun R0 F H=>?_
 refine WP.seq<|rg 6 15<|Dv.box rfl trivial rfl cA nofun fun ba=>Dv.box rfl trivial rfl cA nofun fun bc=>al rfl trivial zc80 nofun fun bd=>al rfl trivial zc78 nofun fun be=>as0 rfl rfl<|as0 rfl rfl<|.fin<|WP.seq<|WP.seq<|rg 8 0<|fb rfl trivial rfl fa80_5<|ld 3 rfl trivial rfl sc4 rfl rfl<|mv0 rfl rfl ?_
 rcases bem a0.fOn with cc | cc
 ·
  have H:=H.cf cc
  refine Dv.gh (gh_sh 14 cc rfl) (fun _ _=>?_)
  refine Dv.gh (gh_sh 15 cc rfl) (fun _ _=>?_)
  refine sk rfl rfl<|sk rfl rfl<|sk rfl rfl<|sk rfl rfl<|pf0 rfl rfl rfl<|.fin<|WP.cond rfl nofun (fun _=>?_)
  refine WP.skip<|WP.seqr H id (fun pa:RSnd=>[(0,agg (RSnd.enc a0)),(1,agg (RView.enc a1)),(2,vI a2),(3,eq (.pointer (some ⟨ba,0,none⟩))),(4,eq (.pointer (some ⟨bc,0,none⟩))),(6,eq (.pointer (some ⟨bd,0,none⟩))),(7,eq (.pointer (some ⟨be,0,none⟩))),(8,vB false),(9,vI 0),(20,vB false),(24,vB a0.fOn)]) (fun pa:RSnd=>[blk be 78 [vB false,vS (⟨#[]⟩:ByteArray),vS (⟨#[]⟩:ByteArray),vI 0,eq (.slice none 0 0)],blk bd 80 [vS (⟨#[]⟩:ByteArray),vS (⟨#[]⟩:ByteArray),vI 0,vI 0,eq (.slice none 0 0),vI 0,vB false,vS (⟨#[]⟩:ByteArray),vS (⟨#[]⟩:ByteArray),vI 0,eq (.slice none 0 0),vB false,vI 0,vI 0],blk bc 44 (RView.enc a1),blk ba 80 [vS pa.fSelf,vS pa.fTo,vI pa.fN,vI pa.fQ.fMost,sl Edu.K pa.fQ.fL,vI pa.fQ.fLost,vB pa.fFly.fAck,vS pa.fFly.fFrom,vS pa.fFly.fTo,vI pa.fFly.fID,sl Edu.K pa.fFly.fEdus,vB pa.fOn,vI pa.fTries,vI pa.fDue]]++F) (fun pa H=>?_) (fun H=>?_)
  rotate_left
  ·
   refine WP.seq<|rg 2 0<|fb rfl trivial rfl fa80_5<|ld 3 rfl trivial rfl sc4 rfl rfl<|.fin<|cd H rfl (fun _ H=>?_) (fun _ H=>?_)
   rotate_left
   ·
    refine WP.skip ?_
    have H:=H.out
    exact jn (⟨a0.fSelf,a0.fTo,a0.fN,a0.fQ,a0.fFly,a0.fOn,a0.fTries,a0.fDue⟩:RSnd) H
   refine WP.seq<|rg 8 0<|lds 2 rfl trivial rfl sg44 rfl rfl<|fb rfl trivial rfl fa80_1<|ld 3 rfl trivial rfl sc9 rfl rfl<|fb rfl trivial rfl fa80_4<|fb rfl trivial rfl fa78_4<|ld 3 rfl trivial rfl sc23 rfl rfl<|el H fun ta haa H=>cl rfl cal17 rfl (r16_Choose.c haa)<|as0 rfl rfl<|.fin<|WP.seq<|WP.seq<|rg 3 0<|mv0 rfl rfl<|Dv.lenl rfl trivial rfl underlying23<|bn0 rfl rfl rfl run_gt<|.fin<|cd H rfl (fun _ H=>?_) (fun _ H=>?_)
   ·
    refine WP.seq<|rg 4 8<|mv0 rfl rfl<|fb rfl trivial rfl fa80_4<|fb rfl trivial rfl fa78_4<|sx 3 rfl trivial rfl rfl (cells_one one_sl) sz23 rfl rfl rfl nofun ?_
    refine .fin<|WP.seq<|rg 5 16<|fb rfl trivial rfl fa80_6<|ld 3 rfl trivial rfl sc3 rfl rfl<|bn0 rfl rfl rfl run_add<|fb rfl trivial rfl fa80_6<|sx 3 rfl trivial rfl rfl cE sz3 rfl rfl rfl nofun ?_
    refine .fin<|WP.seq<|rg 7 64<|mv0 rfl rfl<|fb rfl trivial rfl fa80_6<|ld 3 rfl trivial rfl sc3 rfl rfl<|el H fun tc hac H=>cl rfl cal32 rfl (r05_Backoff.c hac)<|bn0 rfl rfl rfl run_add<|fb rfl trivial rfl fa80_7<|sx 3 rfl trivial rfl rfl cE sz3 rfl rfl rfl nofun ?_
    refine .fin<|WP.seq<|dg Tryz.checked.mixed 7 24<|lds 3 rfl trivial rfl sg80 rfl rfl<|fb rfl trivial rfl fa80_4<|lds 3 rfl trivial rfl sg78 rfl rfl<|sx 1 rfl trivial rfl rfl cA sz80 rfl rfl rfl (fun _=>(pend_in (fun _=>(mem_at 3 rfl)) (pend_in (fun _=>trivial) (pend_by (by kernel_rfl) pend_nil)))) ?_
    refine sx 0 rfl trivial rfl rfl cA sz78 rfl rfl rfl pB ?_
    refine as0 rfl rfl<|as0 rfl rfl<|.fin ?_
    have H:=H.outr
    cases H.out; exact r4 i2 rfl (.cons (res_cells rfl underlying80 rfl c80 (mem_at 1 rfl) rfl) (.cons (res_cells rfl underlying78 rfl c78 (mem_at 0 rfl) rfl) (.cons (res_tmp rfl) (.cons (res_tmp rfl) .nil))))
   refine WP.skip<|WP.seq<|rg 2 2<|fb rfl trivial rfl fa80_5<|sx 3 rfl trivial rfl rfl cE sz4 rfl rfl rfl nofun ?_
   refine .fin<|WP.seq<|rg 3 4<|Dv.bld (qs:=[vB false,vS (⟨#[]⟩:ByteArray),vS (⟨#[]⟩:ByteArray),vI 0,eq (.slice none 0 0)]) (css:=[]) rfl trivial underlying78 pl78 z78 rfl trivial rfl rfl<|fb rfl trivial rfl fa80_4<|sx 3 rfl trivial rfl rfl cA sz78 rfl rfl rfl nofun ?_
   refine .fin<|WP.seq<|rg 2 2<|fb rfl trivial rfl fa80_6<|sx 3 rfl trivial rfl rfl cE sz3 rfl rfl rfl nofun ?_
   refine .fin<|rg 2 2<|fb rfl trivial rfl fa80_7<|sx 3 rfl trivial rfl rfl cE sz3 rfl rfl rfl nofun ?_
   refine .fin ?_
   have H:=H.out
   refine Dn.gh (gh_wk (E':=[(0,agg (RSnd.enc a0)),(1,agg (RView.enc a1)),(2,vI a2),(3,eq (.pointer (some ⟨ba,0,none⟩))),(4,eq (.pointer (some ⟨bc,0,none⟩))),(6,eq (.pointer (some ⟨bd,0,none⟩))),(7,eq (.pointer (some ⟨be,0,none⟩))),(8,vB false),(9,vI 0),(20,vB false),(24,vB a0.fOn)]) (l':=[blk be 78 [vB false,vS (⟨#[]⟩:ByteArray),vS (⟨#[]⟩:ByteArray),vI 0,eq (.slice none 0 0)],blk bd 80 [vS (⟨#[]⟩:ByteArray),vS (⟨#[]⟩:ByteArray),vI 0,vI 0,eq (.slice none 0 0),vI 0,vB false,vS (⟨#[]⟩:ByteArray),vS (⟨#[]⟩:ByteArray),vI 0,eq (.slice none 0 0),vB false,vI 0,vI 0],blk bc 44 (RView.enc a1),blk ba 80 [vS a0.fSelf,vS a0.fTo,vI a0.fN,vI a0.fQ.fMost,sl Edu.K a0.fQ.fL,vI a0.fQ.fLost,vB false,vS (⟨#[]⟩:ByteArray),vS (⟨#[]⟩:ByteArray),vI 0,sl Edu.K ([]:List Edu),vB false,vI 0,vI 0]]++F) (wke_cons rfl wk_id (wke_cons rfl wk_id (wke_cons rfl wk_id (wke_cons rfl wk_id (wke_cons rfl wk_id (wke_cons rfl wk_id (wke_cons rfl wk_id (wke_cons rfl wk_id (wke_cons rfl wk_id (wke_cons rfl wk_id (wke_cons rfl wk_id wke_nil))))))))))) (all2_app (.cons wka_id (.cons wka_id (.cons wka_id (.cons (wka_blk (.cons wk_id (.cons wk_id (.cons wk_id (.cons wk_id (.cons wk_id (.cons wk_id (.cons wk_id (.cons wk_id (.cons wk_id (.cons wk_id (.cons wk_nil (.cons wk_id (.cons wk_id (.cons wk_id .nil))))))))))))))) .nil)))) fun _=>wka_id)) (fun _ _=>?_)
   exact jn (⟨a0.fSelf,a0.fTo,a0.fN,a0.fQ,(⟨false,(⟨#[]⟩:ByteArray),(⟨#[]⟩:ByteArray),0,([]:List Edu)⟩:Par),false,0,0⟩:RSnd) H
  refine WP.seq<|dg Tryz.checked.mixed 12 2048<|fb rfl trivial rfl fa80_3<|lds 3 rfl trivial rfl sg77 rfl rfl<|lds 2 rfl trivial rfl sg44 rfl rfl<|fb rfl trivial rfl fa80_1<|ld 3 rfl trivial rfl sc9 rfl rfl<|fb rfl trivial rfl fa80_3<|fb rfl trivial rfl fa77_1<|ld 3 rfl trivial rfl sc23 rfl rfl<|el H fun te had H=>cl rfl cal17 rfl (r16_Choose.c had)<|el H fun tf hae H=>cl rfl cal68 rfl (r17_Keep.c hae)<|fb rfl trivial rfl fa80_3<|sx 3 rfl trivial rfl rfl cA sz77 rfl rfl rfl pB ?_
  refine .fin<|WP.seq<|WP.seq<|rg 5 0<|fb rfl trivial rfl fa80_3<|fb rfl trivial rfl fa77_1<|ld 3 rfl trivial rfl sc23 rfl rfl<|Dv.lenl rfl trivial rfl underlying23<|bn0 rfl rfl rfl run_eq<|.fin<|cd H rfl (fun _ H=>?_) (fun _ H=>?_)
  ·
   refine WP.seq<|rg 6 12<|lds 3 rfl trivial rfl sg80 rfl rfl<|Dv.bld (qs:=[vB false,vS (⟨#[]⟩:ByteArray),vS (⟨#[]⟩:ByteArray),vI 0,eq (.slice none 0 0)]) (css:=[]) rfl trivial underlying78 pl78 z78 rfl trivial rfl rfl<|sx 1 rfl trivial rfl rfl cA sz80 rfl rfl rfl nofun ?_
   refine sx 0 rfl trivial rfl rfl cA sz78 rfl rfl rfl nofun ?_
   refine as0 rfl rfl<|as0 rfl rfl<|.fin ?_
   cases H.out; exact r4 i2 rfl (.cons (res_cells rfl underlying80 rfl c80 (mem_at 1 rfl) rfl) (.cons (res_wk (res_cells rfl underlying78 rfl c78 (mem_at 0 rfl) rfl) (wk_agg (.cons wk_id (.cons wk_id (.cons wk_id (.cons wk_id (.cons wk_nil .nil))))))) (.cons (res_tmp rfl) (.cons (res_tmp rfl) .nil))))
  refine WP.skip<|WP.seq<|WP.seq<|rg 3 0<|fb rfl trivial rfl fa80_2<|ld 3 rfl trivial rfl sc3 rfl rfl<|bn0 rfl rfl rfl run_ge<|.fin<|cd H rfl (fun _ H=>?_) (fun _ H=>?_)
  ·
   refine WP.seq<|rg 6 12<|lds 3 rfl trivial rfl sg80 rfl rfl<|Dv.bld (qs:=[vB false,vS (⟨#[]⟩:ByteArray),vS (⟨#[]⟩:ByteArray),vI 0,eq (.slice none 0 0)]) (css:=[]) rfl trivial underlying78 pl78 z78 rfl trivial rfl rfl<|sx 1 rfl trivial rfl rfl cA sz80 rfl rfl rfl nofun ?_
   refine sx 0 rfl trivial rfl rfl cA sz78 rfl rfl rfl nofun ?_
   refine as0 rfl rfl<|as0 rfl rfl<|.fin ?_
   cases H.out; exact r4 i2 rfl (.cons (res_cells rfl underlying80 rfl c80 (mem_at 1 rfl) rfl) (.cons (res_wk (res_cells rfl underlying78 rfl c78 (mem_at 0 rfl) rfl) (wk_agg (.cons wk_id (.cons wk_id (.cons wk_id (.cons wk_id (.cons wk_nil .nil))))))) (.cons (res_tmp rfl) (.cons (res_tmp rfl) .nil))))
  refine WP.skip<|WP.seq<|rg 5 16<|fb rfl trivial rfl fa80_2<|ld 3 rfl trivial rfl sc3 rfl rfl<|bn0 rfl rfl rfl run_add<|fb rfl trivial rfl fa80_2<|sx 3 rfl trivial rfl rfl cE sz3 rfl rfl rfl nofun ?_
  refine .fin<|WP.seq<|rg 9 192<|fb rfl trivial rfl fa80_3<|lds 3 rfl trivial rfl sg77 rfl rfl<|el H fun tg haf H=>cl rfl cal69 rfl (r17_Take.c haf)<|mv0 rfl rfl<|ex0 rfl trivial rfl rfl<|ex0 rfl trivial rfl rfl<|al rfl trivial zc77 nofun fun bg=>sx 0 rfl trivial rfl rfl cA sz77 rfl rfl rfl nofun ?_
  refine as0 rfl rfl<|.fin<|WP.seq<|rg 3 4<|lds 0 rfl trivial rfl sg77 rfl rfl<|fb rfl trivial rfl fa80_3<|sx 4 rfl trivial rfl rfl cA sz77 rfl rfl rfl nofun ?_
  refine .fin<|WP.seq<|rg 10 512<|fb rfl trivial rfl fa80_0<|ld 4 rfl trivial rfl sc9 rfl rfl<|fb rfl trivial rfl fa80_1<|ld 4 rfl trivial rfl sc9 rfl rfl<|fb rfl trivial rfl fa80_2<|ld 4 rfl trivial rfl sc3 rfl rfl<|mv0 rfl rfl<|Dv.bld (qs:=[vB false,vS pa.fSelf,vS pa.fTo,vI (w64 (pa.fN+1)),sl Edu.K tg.2]) (css:=[[vS pa.fSelf],[vS pa.fTo],[vI (w64 (pa.fN+1))],[sl Edu.K tg.2]]) rfl trivial underlying78 pl78 z78 rfl ⟨(cells_one (one_eq rfl)),⟨(cells_one (one_eq rfl)),⟨(cells_one (one_eq rfl)),⟨(cells_one one_sl),trivial⟩⟩⟩⟩ rfl rfl<|fb rfl trivial rfl fa80_4<|sx 4 rfl trivial rfl rfl cA sz78 rfl rfl rfl nofun ?_
  refine .fin<|WP.seq<|rg 2 2<|fb rfl trivial rfl fa80_5<|sx 4 rfl trivial rfl rfl cE sz4 rfl rfl rfl nofun ?_
  refine .fin<|WP.seq<|rg 2 2<|fb rfl trivial rfl fa80_6<|sx 4 rfl trivial rfl rfl cE sz3 rfl rfl rfl nofun ?_
  refine .fin<|WP.seq<|rg 4 8<|mv0 rfl rfl<|bn0 rfl rfl rfl run_add<|fb rfl trivial rfl fa80_7<|sx 4 rfl trivial rfl rfl cE sz3 rfl rfl rfl nofun ?_
  refine .fin<|WP.seq<|dg Tryz.checked.mixed 7 24<|lds 4 rfl trivial rfl sg80 rfl rfl<|fb rfl trivial rfl fa80_4<|lds 4 rfl trivial rfl sg78 rfl rfl<|sx 2 rfl trivial rfl rfl cA sz80 rfl rfl rfl (fun _=>(pend_in (fun _=>(mem_at 4 rfl)) (pend_in (fun _=>trivial) (pend_by (by kernel_rfl) pend_nil)))) ?_
  refine sx 1 rfl trivial rfl rfl cA sz78 rfl rfl rfl pB ?_
  refine as0 rfl rfl<|as0 rfl rfl<|.fin ?_
  cases H.out; exact r5 i2 rfl (.cons (res_cells rfl underlying80 rfl c80 (mem_at 2 rfl) rfl) (.cons (res_cells rfl underlying78 rfl c78 (mem_at 1 rfl) rfl) (.cons (res_tmp rfl) (.cons (res_tmp rfl) .nil))))
 have H:=H.ct cc
 refine Dv.gh (gh_sh 14 cc rfl) (fun _ _=>?_)
 refine Dv.gh (gh_sh 15 cc rfl) (fun _ _=>?_)
 refine mvg rfl rfl rfl<|fb rfl (gg rfl) rfl fa80_7<|ld 3 rfl (gg rfl) rfl sc3 rfl rfl<|bng rfl rfl rfl rfl run_lt<|pt0 rfl rfl rfl<|.fin<|cd H rfl (fun _ H=>?_) (fun _ H=>?_)
 ·
  refine WP.seq<|rg 6 12<|lds 3 rfl trivial rfl sg80 rfl rfl<|Dv.bld (qs:=[vB false,vS (⟨#[]⟩:ByteArray),vS (⟨#[]⟩:ByteArray),vI 0,eq (.slice none 0 0)]) (css:=[]) rfl trivial underlying78 pl78 z78 rfl trivial rfl rfl<|sx 1 rfl trivial rfl rfl cA sz80 rfl rfl rfl nofun ?_
  refine sx 0 rfl trivial rfl rfl cA sz78 rfl rfl rfl nofun ?_
  refine as0 rfl rfl<|as0 rfl rfl<|.fin ?_
  cases H.out; exact r4 i2 rfl (.cons (res_cells rfl underlying80 rfl c80 (mem_at 1 rfl) rfl) (.cons (res_wk (res_cells rfl underlying78 rfl c78 (mem_at 0 rfl) rfl) (wk_agg (.cons wk_id (.cons wk_id (.cons wk_id (.cons wk_id (.cons wk_nil .nil))))))) (.cons (res_tmp rfl) (.cons (res_tmp rfl) .nil))))
 refine WP.skip<|WP.seqr H id (fun pc:RSnd=>[(0,agg (RSnd.enc a0)),(1,agg (RView.enc a1)),(2,vI a2),(3,eq (.pointer (some ⟨ba,0,none⟩))),(4,eq (.pointer (some ⟨bc,0,none⟩))),(6,eq (.pointer (some ⟨bd,0,none⟩))),(7,eq (.pointer (some ⟨be,0,none⟩))),(8,vB false),(9,vI 0),(20,vB (decide (a2<a0.fDue))),(24,vB a0.fOn)]) (fun pc:RSnd=>[blk be 78 [vB false,vS (⟨#[]⟩:ByteArray),vS (⟨#[]⟩:ByteArray),vI 0,eq (.slice none 0 0)],blk bd 80 [vS (⟨#[]⟩:ByteArray),vS (⟨#[]⟩:ByteArray),vI 0,vI 0,eq (.slice none 0 0),vI 0,vB false,vS (⟨#[]⟩:ByteArray),vS (⟨#[]⟩:ByteArray),vI 0,eq (.slice none 0 0),vB false,vI 0,vI 0],blk bc 44 (RView.enc a1),blk ba 80 [vS pc.fSelf,vS pc.fTo,vI pc.fN,vI pc.fQ.fMost,sl Edu.K pc.fQ.fL,vI pc.fQ.fLost,vB pc.fFly.fAck,vS pc.fFly.fFrom,vS pc.fFly.fTo,vI pc.fFly.fID,sl Edu.K pc.fFly.fEdus,vB pc.fOn,vI pc.fTries,vI pc.fDue]]++F) (fun pc H=>?_) (fun H=>?_)
 rotate_left
 ·
  refine WP.seq<|rg 2 0<|fb rfl trivial rfl fa80_5<|ld 3 rfl trivial rfl sc4 rfl rfl<|.fin<|cd H rfl (fun _ H=>?_) (fun _ H=>?_)
  rotate_left
  ·
   refine WP.skip ?_
   have H:=H.out
   exact jn (⟨a0.fSelf,a0.fTo,a0.fN,a0.fQ,a0.fFly,a0.fOn,a0.fTries,a0.fDue⟩:RSnd) H
  refine WP.seq<|rg 8 0<|lds 2 rfl trivial rfl sg44 rfl rfl<|fb rfl trivial rfl fa80_1<|ld 3 rfl trivial rfl sc9 rfl rfl<|fb rfl trivial rfl fa80_4<|fb rfl trivial rfl fa78_4<|ld 3 rfl trivial rfl sc23 rfl rfl<|el H fun tj hag H=>cl rfl cal17 rfl (r16_Choose.c hag)<|as0 rfl rfl<|.fin<|WP.seq<|WP.seq<|rg 3 0<|mv0 rfl rfl<|Dv.lenl rfl trivial rfl underlying23<|bn0 rfl rfl rfl run_gt<|.fin<|cd H rfl (fun _ H=>?_) (fun _ H=>?_)
  ·
   refine WP.seq<|rg 4 8<|mv0 rfl rfl<|fb rfl trivial rfl fa80_4<|fb rfl trivial rfl fa78_4<|sx 3 rfl trivial rfl rfl (cells_one one_sl) sz23 rfl rfl rfl nofun ?_
   refine .fin<|WP.seq<|rg 5 16<|fb rfl trivial rfl fa80_6<|ld 3 rfl trivial rfl sc3 rfl rfl<|bn0 rfl rfl rfl run_add<|fb rfl trivial rfl fa80_6<|sx 3 rfl trivial rfl rfl cE sz3 rfl rfl rfl nofun ?_
   refine .fin<|WP.seq<|rg 7 64<|mv0 rfl rfl<|fb rfl trivial rfl fa80_6<|ld 3 rfl trivial rfl sc3 rfl rfl<|el H fun tm hah H=>cl rfl cal32 rfl (r05_Backoff.c hah)<|bn0 rfl rfl rfl run_add<|fb rfl trivial rfl fa80_7<|sx 3 rfl trivial rfl rfl cE sz3 rfl rfl rfl nofun ?_
   refine .fin<|WP.seq<|dg Tryz.checked.mixed 7 24<|lds 3 rfl trivial rfl sg80 rfl rfl<|fb rfl trivial rfl fa80_4<|lds 3 rfl trivial rfl sg78 rfl rfl<|sx 1 rfl trivial rfl rfl cA sz80 rfl rfl rfl (fun _=>(pend_in (fun _=>(mem_at 3 rfl)) (pend_in (fun _=>trivial) (pend_by (by kernel_rfl) pend_nil)))) ?_
   refine sx 0 rfl trivial rfl rfl cA sz78 rfl rfl rfl pB ?_
   refine as0 rfl rfl<|as0 rfl rfl<|.fin ?_
   have H:=H.outr
   cases H.out; exact r4 i2 rfl (.cons (res_cells rfl underlying80 rfl c80 (mem_at 1 rfl) rfl) (.cons (res_cells rfl underlying78 rfl c78 (mem_at 0 rfl) rfl) (.cons (res_tmp rfl) (.cons (res_tmp rfl) .nil))))
  refine WP.skip<|WP.seq<|rg 2 2<|fb rfl trivial rfl fa80_5<|sx 3 rfl trivial rfl rfl cE sz4 rfl rfl rfl nofun ?_
  refine .fin<|WP.seq<|rg 3 4<|Dv.bld (qs:=[vB false,vS (⟨#[]⟩:ByteArray),vS (⟨#[]⟩:ByteArray),vI 0,eq (.slice none 0 0)]) (css:=[]) rfl trivial underlying78 pl78 z78 rfl trivial rfl rfl<|fb rfl trivial rfl fa80_4<|sx 3 rfl trivial rfl rfl cA sz78 rfl rfl rfl nofun ?_
  refine .fin<|WP.seq<|rg 2 2<|fb rfl trivial rfl fa80_6<|sx 3 rfl trivial rfl rfl cE sz3 rfl rfl rfl nofun ?_
  refine .fin<|rg 2 2<|fb rfl trivial rfl fa80_7<|sx 3 rfl trivial rfl rfl cE sz3 rfl rfl rfl nofun ?_
  refine .fin ?_
  have H:=H.out
  refine Dn.gh (gh_wk (E':=[(0,agg (RSnd.enc a0)),(1,agg (RView.enc a1)),(2,vI a2),(3,eq (.pointer (some ⟨ba,0,none⟩))),(4,eq (.pointer (some ⟨bc,0,none⟩))),(6,eq (.pointer (some ⟨bd,0,none⟩))),(7,eq (.pointer (some ⟨be,0,none⟩))),(8,vB false),(9,vI 0),(20,vB (decide (a2<a0.fDue))),(24,vB a0.fOn)]) (l':=[blk be 78 [vB false,vS (⟨#[]⟩:ByteArray),vS (⟨#[]⟩:ByteArray),vI 0,eq (.slice none 0 0)],blk bd 80 [vS (⟨#[]⟩:ByteArray),vS (⟨#[]⟩:ByteArray),vI 0,vI 0,eq (.slice none 0 0),vI 0,vB false,vS (⟨#[]⟩:ByteArray),vS (⟨#[]⟩:ByteArray),vI 0,eq (.slice none 0 0),vB false,vI 0,vI 0],blk bc 44 (RView.enc a1),blk ba 80 [vS a0.fSelf,vS a0.fTo,vI a0.fN,vI a0.fQ.fMost,sl Edu.K a0.fQ.fL,vI a0.fQ.fLost,vB false,vS (⟨#[]⟩:ByteArray),vS (⟨#[]⟩:ByteArray),vI 0,sl Edu.K ([]:List Edu),vB false,vI 0,vI 0]]++F) (wke_cons rfl wk_id (wke_cons rfl wk_id (wke_cons rfl wk_id (wke_cons rfl wk_id (wke_cons rfl wk_id (wke_cons rfl wk_id (wke_cons rfl wk_id (wke_cons rfl wk_id (wke_cons rfl wk_id (wke_cons rfl wk_id (wke_cons rfl wk_id wke_nil))))))))))) (all2_app (.cons wka_id (.cons wka_id (.cons wka_id (.cons (wka_blk (.cons wk_id (.cons wk_id (.cons wk_id (.cons wk_id (.cons wk_id (.cons wk_id (.cons wk_id (.cons wk_id (.cons wk_id (.cons wk_id (.cons wk_nil (.cons wk_id (.cons wk_id (.cons wk_id .nil))))))))))))))) .nil)))) fun _=>wka_id)) (fun _ _=>?_)
  exact jn (⟨a0.fSelf,a0.fTo,a0.fN,a0.fQ,(⟨false,(⟨#[]⟩:ByteArray),(⟨#[]⟩:ByteArray),0,([]:List Edu)⟩:Par),false,0,0⟩:RSnd) H
 refine WP.seq<|dg Tryz.checked.mixed 12 2048<|fb rfl trivial rfl fa80_3<|lds 3 rfl trivial rfl sg77 rfl rfl<|lds 2 rfl trivial rfl sg44 rfl rfl<|fb rfl trivial rfl fa80_1<|ld 3 rfl trivial rfl sc9 rfl rfl<|fb rfl trivial rfl fa80_3<|fb rfl trivial rfl fa77_1<|ld 3 rfl trivial rfl sc23 rfl rfl<|el H fun tn hai H=>cl rfl cal17 rfl (r16_Choose.c hai)<|el H fun tp haj H=>cl rfl cal68 rfl (r17_Keep.c haj)<|fb rfl trivial rfl fa80_3<|sx 3 rfl trivial rfl rfl cA sz77 rfl rfl rfl pB ?_
 refine .fin<|WP.seq<|WP.seq<|rg 5 0<|fb rfl trivial rfl fa80_3<|fb rfl trivial rfl fa77_1<|ld 3 rfl trivial rfl sc23 rfl rfl<|Dv.lenl rfl trivial rfl underlying23<|bn0 rfl rfl rfl run_eq<|.fin<|cd H rfl (fun _ H=>?_) (fun _ H=>?_)
 ·
  refine WP.seq<|rg 6 12<|lds 3 rfl trivial rfl sg80 rfl rfl<|Dv.bld (qs:=[vB false,vS (⟨#[]⟩:ByteArray),vS (⟨#[]⟩:ByteArray),vI 0,eq (.slice none 0 0)]) (css:=[]) rfl trivial underlying78 pl78 z78 rfl trivial rfl rfl<|sx 1 rfl trivial rfl rfl cA sz80 rfl rfl rfl nofun ?_
  refine sx 0 rfl trivial rfl rfl cA sz78 rfl rfl rfl nofun ?_
  refine as0 rfl rfl<|as0 rfl rfl<|.fin ?_
  cases H.out; exact r4 i2 rfl (.cons (res_cells rfl underlying80 rfl c80 (mem_at 1 rfl) rfl) (.cons (res_wk (res_cells rfl underlying78 rfl c78 (mem_at 0 rfl) rfl) (wk_agg (.cons wk_id (.cons wk_id (.cons wk_id (.cons wk_id (.cons wk_nil .nil))))))) (.cons (res_tmp rfl) (.cons (res_tmp rfl) .nil))))
 refine WP.skip<|WP.seq<|WP.seq<|rg 3 0<|fb rfl trivial rfl fa80_2<|ld 3 rfl trivial rfl sc3 rfl rfl<|bn0 rfl rfl rfl run_ge<|.fin<|cd H rfl (fun _ H=>?_) (fun _ H=>?_)
 ·
  refine WP.seq<|rg 6 12<|lds 3 rfl trivial rfl sg80 rfl rfl<|Dv.bld (qs:=[vB false,vS (⟨#[]⟩:ByteArray),vS (⟨#[]⟩:ByteArray),vI 0,eq (.slice none 0 0)]) (css:=[]) rfl trivial underlying78 pl78 z78 rfl trivial rfl rfl<|sx 1 rfl trivial rfl rfl cA sz80 rfl rfl rfl nofun ?_
  refine sx 0 rfl trivial rfl rfl cA sz78 rfl rfl rfl nofun ?_
  refine as0 rfl rfl<|as0 rfl rfl<|.fin ?_
  cases H.out; exact r4 i2 rfl (.cons (res_cells rfl underlying80 rfl c80 (mem_at 1 rfl) rfl) (.cons (res_wk (res_cells rfl underlying78 rfl c78 (mem_at 0 rfl) rfl) (wk_agg (.cons wk_id (.cons wk_id (.cons wk_id (.cons wk_id (.cons wk_nil .nil))))))) (.cons (res_tmp rfl) (.cons (res_tmp rfl) .nil))))
 refine WP.skip<|WP.seq<|rg 5 16<|fb rfl trivial rfl fa80_2<|ld 3 rfl trivial rfl sc3 rfl rfl<|bn0 rfl rfl rfl run_add<|fb rfl trivial rfl fa80_2<|sx 3 rfl trivial rfl rfl cE sz3 rfl rfl rfl nofun ?_
 refine .fin<|WP.seq<|rg 9 192<|fb rfl trivial rfl fa80_3<|lds 3 rfl trivial rfl sg77 rfl rfl<|el H fun tq hak H=>cl rfl cal69 rfl (r17_Take.c hak)<|mv0 rfl rfl<|ex0 rfl trivial rfl rfl<|ex0 rfl trivial rfl rfl<|al rfl trivial zc77 nofun fun bh=>sx 0 rfl trivial rfl rfl cA sz77 rfl rfl rfl nofun ?_
 refine as0 rfl rfl<|.fin<|WP.seq<|rg 3 4<|lds 0 rfl trivial rfl sg77 rfl rfl<|fb rfl trivial rfl fa80_3<|sx 4 rfl trivial rfl rfl cA sz77 rfl rfl rfl nofun ?_
 refine .fin<|WP.seq<|rg 10 512<|fb rfl trivial rfl fa80_0<|ld 4 rfl trivial rfl sc9 rfl rfl<|fb rfl trivial rfl fa80_1<|ld 4 rfl trivial rfl sc9 rfl rfl<|fb rfl trivial rfl fa80_2<|ld 4 rfl trivial rfl sc3 rfl rfl<|mv0 rfl rfl<|Dv.bld (qs:=[vB false,vS pc.fSelf,vS pc.fTo,vI (w64 (pc.fN+1)),sl Edu.K tq.2]) (css:=[[vS pc.fSelf],[vS pc.fTo],[vI (w64 (pc.fN+1))],[sl Edu.K tq.2]]) rfl trivial underlying78 pl78 z78 rfl ⟨(cells_one (one_eq rfl)),⟨(cells_one (one_eq rfl)),⟨(cells_one (one_eq rfl)),⟨(cells_one one_sl),trivial⟩⟩⟩⟩ rfl rfl<|fb rfl trivial rfl fa80_4<|sx 4 rfl trivial rfl rfl cA sz78 rfl rfl rfl nofun ?_
 refine .fin<|WP.seq<|rg 2 2<|fb rfl trivial rfl fa80_5<|sx 4 rfl trivial rfl rfl cE sz4 rfl rfl rfl nofun ?_
 refine .fin<|WP.seq<|rg 2 2<|fb rfl trivial rfl fa80_6<|sx 4 rfl trivial rfl rfl cE sz3 rfl rfl rfl nofun ?_
 refine .fin<|WP.seq<|rg 4 8<|mv0 rfl rfl<|bn0 rfl rfl rfl run_add<|fb rfl trivial rfl fa80_7<|sx 4 rfl trivial rfl rfl cE sz3 rfl rfl rfl nofun ?_
 refine .fin<|WP.seq<|dg Tryz.checked.mixed 7 24<|lds 4 rfl trivial rfl sg80 rfl rfl<|fb rfl trivial rfl fa80_4<|lds 4 rfl trivial rfl sg78 rfl rfl<|sx 2 rfl trivial rfl rfl cA sz80 rfl rfl rfl (fun _=>(pend_in (fun _=>(mem_at 4 rfl)) (pend_in (fun _=>trivial) (pend_by (by kernel_rfl) pend_nil)))) ?_
 refine sx 1 rfl trivial rfl rfl cA sz78 rfl rfl rfl pB ?_
 refine as0 rfl rfl<|as0 rfl rfl<|.fin ?_
 cases H.out; exact r5 i2 rfl (.cons (res_cells rfl underlying80 rfl c80 (mem_at 2 rfl) rfl) (.cons (res_cells rfl underlying78 rfl c78 (mem_at 1 rfl) rfl) (.cons (res_tmp rfl) (.cons (res_tmp rfl) .nil))))
theorem r04_SameEdus.c (h:r04_SameEdus.f k a0 a1=some r):Pt prog 16 [sl Edu.K a0,sl Edu.K a1] (vB r):=by
 unfold r04_SameEdus.f at h
 refine pb func16 ntmps16 h fun R0 F H=>?_
 refine WP.seq<|rg 1 0<|as0 rfl rfl<|.fin<|WP.seq<|WP.seq<|rg 5 0<|mv0 rfl rfl<|Dv.lenl rfl trivial rfl underlying23<|mv0 rfl rfl<|Dv.lenl rfl trivial rfl underlying23<|bn0 rfl rfl rfl run_ne<|.fin<|cd H rfl (fun _ H=>?_) (fun _ H=>?_)
 ·
  refine WP.seq<|rg 1 0<|as0 rfl rfl<|.fin ?_
  cases H.out; exact r0 i2 rfl (.cons (res_tmp rfl) .nil)
 refine WP.skip<|WP.seqr H id (fun pa:Int×Bool=>[(0,sl Edu.K a0),(1,sl Edu.K a1),(4,vB false),(5,vI pa.1),(10,vB ((a0.length:Int) != (a1.length:Int))),(14,vB pa.2)]) (fun pa:Int×Bool=>F) (fun pa H=>?_) (fun H=>?_)
 ·
  refine WP.seq<|rg 1 0<|as0 rfl rfl<|.fin ?_
  cases H.out; exact r0 i2 rfl (.cons (res_tmp rfl) .nil)
 refine WP.seq<|rg 1 0<|as0 rfl rfl<|.fin<|WP.block<|wg (sg 0 [] 0) fun _ _=>?_
 refine lp (fun j_ (pc:Int)=>r04_SameEdus.l0 k a0 a1 j_ pc) 0 H (fun pc=>[(0,sl Edu.K a0),(1,sl Edu.K a1),(4,vB false),(5,vI pc),(10,vB ((a0.length:Int) != (a1.length:Int)))]) (fun pc=>F) ?_
 rintro j_ xa H
 rcases j_ with _ | ja
 ·
  exact (Gets.no H).elim
 try dsimp only at H
 rw [r04_SameEdus.l0] at H
 refine WP.seq<|WP.seq<|rg 4 0<|mv0 rfl rfl<|mv0 rfl rfl<|Dv.lenl rfl trivial rfl underlying23<|bn0 rfl rfl rfl run_lt<|.fin<|cd H rfl (fun _ H=>?_) (fun _ H=>?_)
 rotate_left
 ·
  refine WP.exit ?_
  have H:=H.out
  exact jn (xa,decide (xa<(a0.length:Int))) H
 refine WP.skip<|WP.seq<|WP.block<|WP.seq<|dg Tryz.checked.mixed 9 0<|mv0 rfl rfl<|mv0 rfl rfl<|gr H fun ga H=>Dv.ixr rfl trivial rfl rfl underlying23 underlying32 c32 ga.1 ga.2<|ldsR rfl trivial rfl sg32 rfl<|mv0 rfl rfl<|mv0 rfl rfl<|gr H fun gb H=>Dv.ixr rfl trivial rfl rfl underlying23 underlying32 c32 gb.1 gb.2<|ldsR rfl trivial rfl sg32 rfl<|Dv.nes [.int .i64 ((Edu.K.at a0 xa).fKind),.string ((Edu.K.at a0 xa).fRoom),.string ((Edu.K.at a0 xa).fUser),.string ((Edu.K.at a0 xa).fEvent),.string ((Edu.K.at a0 xa).fThread),.bool ((Edu.K.at a0 xa).fPrivate),.bool ((Edu.K.at a0 xa).fOn),.int .i64 ((Edu.K.at a0 xa).fSpan),.int .i64 ((Edu.K.at a0 xa).fState),.int .i64 ((Edu.K.at a0 xa).fTick),.int .i64 ((Edu.K.at a0 xa).fStamp)] [.int .i64 ((Edu.K.at a1 xa).fKind),.string ((Edu.K.at a1 xa).fRoom),.string ((Edu.K.at a1 xa).fUser),.string ((Edu.K.at a1 xa).fEvent),.string ((Edu.K.at a1 xa).fThread),.bool ((Edu.K.at a1 xa).fPrivate),.bool ((Edu.K.at a1 xa).fOn),.int .i64 ((Edu.K.at a1 xa).fSpan),.int .i64 ((Edu.K.at a1 xa).fState),.int .i64 ((Edu.K.at a1 xa).fTick),.int .i64 ((Edu.K.at a1 xa).fStamp)] rfl trivial rfl rfl rfl rfl eg32 (fun _=>equal_of 2 (by decide) (fun _=>eqt32 (Edu.K.at a0 xa) (Edu.K.at a1 xa)))<|.fin<|cd H rfl (fun _ H=>?_) (fun _ H=>?_)
 rotate_left
 ·
  exact WP.skip<|rg 3 0<|mv0 rfl rfl<|bn0 rfl rfl rfl run_add<|as0 rfl rfl<|.fin<|bk ja (w64 (xa+1)) H
 refine WP.seq<|rg 1 0<|as0 rfl rfl<|.fin ?_
 have H:=H.outr
 cases H.out; exact r0 i2 rfl (.cons (res_tmp rfl) .nil)
theorem r04_Same.c (h:r04_Same.f k a0 a1=some r):Pt prog 36 [agg (Par.enc a0),agg (Par.enc a1)] (vB r):=by
 unfold r04_Same.f at h
 refine pb func36 ntmps36 h fun R0 F H=>?_
 refine WP.seq<|rg 3 3<|Dv.box rfl trivial rfl cA nofun fun ba=>Dv.box rfl trivial rfl cA nofun fun bc=>as0 rfl rfl<|.fin<|WP.seq<|rg 6 0<|fb rfl trivial rfl fa78_4<|ld 1 rfl trivial rfl sc23 rfl rfl<|fb rfl trivial rfl fa78_4<|ld 0 rfl trivial rfl sc23 rfl rfl<|el H fun ta haa H=>cl rfl cal16 rfl (r04_SameEdus.c haa)<|as0 rfl rfl<|.fin<|WP.seq<|rg 30 0<|mv0 rfl rfl<|mv0 rfl rfl ?_
 cases cc:ta
 ·
  have H:=H.cf cc
  refine sk rfl rfl<|sk rfl rfl<|sk rfl rfl<|sk rfl rfl<|sk rfl rfl<|pf0 rfl rfl rfl<|mv0 rfl rfl<|sk rfl rfl<|sk rfl rfl<|sk rfl rfl<|sk rfl rfl<|sk rfl rfl<|pf0 rfl rfl rfl<|mv0 rfl rfl<|sk rfl rfl<|sk rfl rfl<|sk rfl rfl<|sk rfl rfl<|sk rfl rfl<|pf0 rfl rfl rfl<|mv0 rfl rfl<|sk rfl rfl<|sk rfl rfl<|sk rfl rfl<|sk rfl rfl<|sk rfl rfl<|pf0 rfl rfl rfl<|as0 rfl rfl<|.fin ?_
  cases H.out; exact r2 i2 rfl (.cons (res_tmp rfl) .nil)
 have H:=H.ct cc
 refine fb rfl (gg rfl) rfl fa78_0<|ld 1 rfl (gg rfl) rfl sc4 rfl rfl<|fb rfl (gg rfl) rfl fa78_0<|ld 0 rfl (gg rfl) rfl sc4 rfl rfl<|bng rfl rfl rfl rfl (run_beq underlying4)<|pt0 rfl rfl rfl<|mv0 rfl rfl ?_
 cases ce:(a0.fAck==a1.fAck)
 ·
  have H:=H.cf ce
  refine sk rfl rfl<|sk rfl rfl<|sk rfl rfl<|sk rfl rfl<|sk rfl rfl<|pf0 rfl rfl rfl<|mv0 rfl rfl<|sk rfl rfl<|sk rfl rfl<|sk rfl rfl<|sk rfl rfl<|sk rfl rfl<|pf0 rfl rfl rfl<|mv0 rfl rfl<|sk rfl rfl<|sk rfl rfl<|sk rfl rfl<|sk rfl rfl<|sk rfl rfl<|pf0 rfl rfl rfl<|as0 rfl rfl<|.fin ?_
  cases H.out; exact r2 i2 rfl (.cons (res_tmp rfl) .nil)
 have H:=H.ct ce
 refine fb rfl (gg rfl) rfl fa78_1<|ld 1 rfl (gg rfl) rfl sc9 rfl rfl<|fb rfl (gg rfl) rfl fa78_1<|ld 0 rfl (gg rfl) rfl sc9 rfl rfl<|bng rfl rfl rfl rfl run_seq<|pt0 rfl rfl rfl<|mv0 rfl rfl ?_
 cases cg:decide (a0.fFrom=a1.fFrom)
 ·
  have H:=H.cf cg
  refine sk rfl rfl<|sk rfl rfl<|sk rfl rfl<|sk rfl rfl<|sk rfl rfl<|pf0 rfl rfl rfl<|mv0 rfl rfl<|sk rfl rfl<|sk rfl rfl<|sk rfl rfl<|sk rfl rfl<|sk rfl rfl<|pf0 rfl rfl rfl<|as0 rfl rfl<|.fin ?_
  cases H.out; exact r2 i2 rfl (.cons (res_tmp rfl) .nil)
 have H:=H.ct cg
 refine fb rfl (gg rfl) rfl fa78_2<|ld 1 rfl (gg rfl) rfl sc9 rfl rfl<|fb rfl (gg rfl) rfl fa78_2<|ld 0 rfl (gg rfl) rfl sc9 rfl rfl<|bng rfl rfl rfl rfl run_seq<|pt0 rfl rfl rfl<|mv0 rfl rfl ?_
 cases ci:decide (a0.fTo=a1.fTo)
 ·
  have H:=H.cf ci
  refine sk rfl rfl<|sk rfl rfl<|sk rfl rfl<|sk rfl rfl<|sk rfl rfl<|pf0 rfl rfl rfl<|as0 rfl rfl<|.fin ?_
  cases H.out; exact r2 i2 rfl (.cons (res_tmp rfl) .nil)
 have H:=H.ct ci
 refine fb rfl (gg rfl) rfl fa78_3<|ld 1 rfl (gg rfl) rfl sc3 rfl rfl<|fb rfl (gg rfl) rfl fa78_3<|ld 0 rfl (gg rfl) rfl sc3 rfl rfl<|bng rfl rfl rfl rfl run_eq<|pt0 rfl rfl rfl<|as0 rfl rfl<|.fin ?_
 cases H.out; exact r2 i2 rfl (.cons (res_tmp rfl) .nil)
theorem r18_Ack.c (h:r18_Ack.f a0 a1=some r):Pt prog 37 [agg (RSnd.enc a0),vI a1] (tup [agg (RSnd.enc r.1),vB r.2]):=by
 unfold r18_Ack.f at h
 refine pb func37 ntmps37 h fun R0 F H=>?_
 refine WP.seq<|rg 3 3<|Dv.box rfl trivial rfl cA nofun fun ba=>al rfl trivial zc80 nofun fun bc=>as0 rfl rfl<|.fin<|WP.seq<|WP.seq<|rg 10 0<|fb rfl trivial rfl fa80_5<|ld 1 rfl trivial rfl sc4 rfl rfl<|un0 rfl rfl (run_not _)<|mv0 rfl rfl ?_
 rcases bem (!a0.fOn) with cc | cc
 rotate_left
 ·
  have H:=H.ct cc
  refine Dv.gh (gh_sh 8 cc rfl) (fun _ _=>?_)
  refine Dv.gh (gh_sh 9 cc rfl) (fun _ _=>?_)
  refine sk rfl rfl<|sk rfl rfl<|sk rfl rfl<|sk rfl rfl<|sk rfl rfl<|pt0 rfl rfl rfl<|.fin<|WP.cond rfl (fun _=>?_) nofun
  refine WP.seq<|rg 3 2<|lds 1 rfl trivial rfl sg80 rfl rfl<|sx 0 rfl trivial rfl rfl cA sz80 rfl rfl rfl nofun ?_
  refine as0 rfl rfl<|.fin ?_
  cases H.out; exact r2 i2 rfl (.cons (res_cells rfl underlying80 rfl c80 (mem_at 0 rfl) rfl) (.cons (res_tmp rfl) .nil))
 have H:=H.cf cc
 refine Dv.gh (gh_sh 8 cc rfl) (fun _ _=>?_)
 refine Dv.gh (gh_sh 9 cc rfl) (fun _ _=>?_)
 refine fb rfl (gg rfl) rfl fa80_4<|fb rfl (gg rfl) rfl fa78_3<|ld 1 rfl (gg rfl) rfl sc3 rfl rfl<|mvg rfl rfl rfl<|bng rfl rfl rfl rfl run_ne<|pf0 rfl rfl rfl<|.fin<|cd H rfl (fun _ H=>?_) (fun _ H=>?_)
 ·
  refine WP.seq<|rg 3 2<|lds 1 rfl trivial rfl sg80 rfl rfl<|sx 0 rfl trivial rfl rfl cA sz80 rfl rfl rfl nofun ?_
  refine as0 rfl rfl<|.fin ?_
  cases H.out; exact r2 i2 rfl (.cons (res_cells rfl underlying80 rfl c80 (mem_at 0 rfl) rfl) (.cons (res_tmp rfl) .nil))
 refine WP.skip<|WP.seq<|rg 2 2<|fb rfl trivial rfl fa80_5<|sx 1 rfl trivial rfl rfl cE sz4 rfl rfl rfl nofun ?_
 refine .fin<|WP.seq<|rg 3 4<|Dv.bld (qs:=[vB false,vS (⟨#[]⟩:ByteArray),vS (⟨#[]⟩:ByteArray),vI 0,eq (.slice none 0 0)]) (css:=[]) rfl trivial underlying78 pl78 z78 rfl trivial rfl rfl<|fb rfl trivial rfl fa80_4<|sx 1 rfl trivial rfl rfl cA sz78 rfl rfl rfl nofun ?_
 refine .fin<|WP.seq<|rg 2 2<|fb rfl trivial rfl fa80_6<|sx 1 rfl trivial rfl rfl cE sz3 rfl rfl rfl nofun ?_
 refine .fin<|WP.seq<|rg 2 2<|fb rfl trivial rfl fa80_7<|sx 1 rfl trivial rfl rfl cE sz3 rfl rfl rfl nofun ?_
 refine .fin<|WP.seq<|rg 3 2<|lds 1 rfl trivial rfl sg80 rfl rfl<|sx 0 rfl trivial rfl rfl cA sz80 rfl rfl rfl nofun ?_
 refine as0 rfl rfl<|.fin ?_
 cases H.out; exact r2 i2 rfl (.cons (res_wk (res_cells rfl underlying80 rfl c80 (mem_at 0 rfl) rfl) (wk_agg (.cons wk_id (.cons wk_id (.cons wk_id (.cons wk_id (.cons wk_id (.cons wk_id (.cons wk_id (.cons wk_id (.cons wk_id (.cons wk_id (.cons wk_nil (.cons wk_id (.cons wk_id (.cons wk_id .nil)))))))))))))))) (.cons (res_tmp rfl) .nil))
theorem r01_ThreadOf.c (h:r01_ThreadOf.f k a0=some r):Pt prog 70 [vI a0] (vS r):=by
 unfold r01_ThreadOf.f at h
 refine pb func70 ntmps70 h fun R0 F H=>?_
 refine WP.seq<|rg 1 0<|as0 rfl rfl<|.fin<|WP.seq<|rg 3 0<|mv0 rfl rfl<|el H fun ta haa H=>cl rfl cal12 rfl (r01_Around.c haa)<|as0 rfl rfl<|.fin<|WP.seq<|WP.seq<|rg 2 0<|mv0 rfl rfl<|bn0 rfl rfl rfl run_eq<|.fin<|cd H rfl (fun _ H=>?_) (fun _ H=>?_)
 ·
  refine WP.seq<|rg 1 0<|as0 rfl rfl<|.fin ?_
  cases H.out; exact r0 i2 rfl (.cons (res_tmp rfl) .nil)
 refine WP.skip<|WP.seq<|WP.seq<|rg 2 0<|mv0 rfl rfl<|bn0 rfl rfl rfl run_eq<|.fin<|cd H rfl (fun _ H=>?_) (fun _ H=>?_)
 ·
  refine WP.seq<|rg 1 0<|as0 rfl rfl<|.fin ?_
  cases H.out; exact r0 i2 rfl (.cons (res_tmp rfl) .nil)
 refine WP.skip<|WP.seq<|rg 3 0<|mv0 rfl rfl<|el H fun tc hac H=>cl rfl cal63 rfl (r01_EventOf.c hac)<|as0 rfl rfl<|.fin ?_
 cases H.out; exact r0 i2 rfl (.cons (res_tmp rfl) .nil)
theorem r03_Good.c (h:r03_Good.f k a0=some r):Pt prog 38 [agg (Edu.enc a0)] (agg (Edu.enc r)):=by
 unfold r03_Good.f at h
 refine pb func38 ntmps38 h fun R0 F H=>?_
 refine WP.seq<|rg 2 3<|Dv.box rfl trivial rfl cA nofun fun ba=>al rfl trivial zc32 nofun fun bc=>.fin<|WP.seq<|dg Tryz.checked.mixed 16 49152<|fb rfl trivial rfl fa32_0<|ld 1 rfl trivial rfl sc3 rfl rfl<|el H fun ta haa H=>cl rfl cal12 rfl (r01_Around.c haa)<|bn0 rfl rfl rfl run_add<|fb rfl trivial rfl fa32_8<|ld 1 rfl trivial rfl sc3 rfl rfl<|el H fun tc hac H=>cl rfl cal27 rfl (r01_UserOf.c hac)<|fb rfl trivial rfl fa32_9<|ld 1 rfl trivial rfl sc3 rfl rfl<|el H fun te had H=>cl rfl cal12 rfl (r01_Around.c had)<|fb rfl trivial rfl fa32_10<|ld 1 rfl trivial rfl sc3 rfl rfl<|el H fun tf hae H=>cl rfl cal12 rfl (r01_Around.c hae)<|Dv.bld (qs:=[vI (w64 (1+ta)),vS (⟨#[]⟩:ByteArray),vS tc,vS (⟨#[]⟩:ByteArray),vS (⟨#[]⟩:ByteArray),vB false,vB false,vI 0,vI 0,vI te,vI tf]) (css:=[[vI (w64 (1+ta))],[vS tc],[vI te],[vI tf]]) rfl trivial underlying32 pl32 z32 rfl ⟨(cells_one (one_eq rfl)),⟨(cells_one (one_eq rfl)),⟨(cells_one (one_eq rfl)),⟨(cells_one (one_eq rfl)),trivial⟩⟩⟩⟩ rfl rfl<|al rfl trivial zc32 (fun _=>(pend_in (fun _=>trivial) (pend_in (fun _=>trivial) (pend_in (fun _=>(mem_at 2 rfl)) (pend_in (fun _=>trivial) (pend_in (fun _=>trivial) (pend_in (fun _=>(mem_at 2 rfl)) (pend_in (fun _=>trivial) (pend_in (fun _=>trivial) (pend_in (fun _=>(mem_at 2 rfl)) (pend_in (fun _=>trivial) (pend_in (fun _=>trivial) (pend_in (fun _=>trivial) (pend_in (fun _=>(mem_at 2 rfl)) (pend_in (fun _=>trivial) pend_nil))))))))))))))) fun bd=>sx 0 rfl trivial rfl rfl cA sz32 rfl rfl rfl pB ?_
 refine .fin<|WP.seq<|WP.seq<|rg 2 0<|fb rfl trivial rfl fa32_0<|ld 0 rfl trivial rfl sc3 rfl rfl<|.fin<|WP.block<|WP.seq<|rg 2 0<|bn0 rfl rfl rfl run_eq<|as0 rfl rfl<|.fin<|cd H rfl (fun _ H=>?_) (fun _ H=>?_)
 ·
  refine WP.seq<|rg 5 16<|fb rfl trivial rfl fa32_7<|ld 2 rfl trivial rfl sc3 rfl rfl<|el H fun tg haf H=>cl rfl cal26 rfl (r01_RoomOf.c haf)<|fb rfl trivial rfl fa32_1<|sx 0 rfl trivial rfl rfl cE sz9 rfl rfl rfl nofun ?_
  refine .fin<|WP.seq<|dg Tryz.checked.mixed 10 512<|fb rfl trivial rfl fa32_3<|ld 2 rfl trivial rfl sc9 rfl rfl<|Dv.lens rfl trivial rfl underlying9<|fb rfl trivial rfl fa32_9<|ld 2 rfl trivial rfl sc3 rfl rfl<|el H fun tj hag H=>cl rfl cal12 rfl (r01_Around.c hag)<|bn0 rfl rfl rfl run_add<|el H fun tm hah H=>cl rfl cal63 rfl (r01_EventOf.c hah)<|fb rfl trivial rfl fa32_3<|sx 0 rfl trivial rfl rfl cE sz9 rfl rfl rfl pB ?_
  refine .fin<|WP.seq<|rg 6 32<|fb rfl trivial rfl fa32_4<|ld 2 rfl trivial rfl sc9 rfl rfl<|Dv.lens rfl trivial rfl underlying9<|el H fun tn hai H=>cl rfl cal70 rfl (r01_ThreadOf.c hai)<|fb rfl trivial rfl fa32_4<|sx 0 rfl trivial rfl rfl cE sz9 rfl rfl rfl nofun ?_
  refine .fin<|rg 4 8<|fb rfl trivial rfl fa32_5<|ld 2 rfl trivial rfl sc4 rfl rfl<|fb rfl trivial rfl fa32_5<|sx 0 rfl trivial rfl rfl cE sz4 rfl rfl rfl nofun ?_
  refine .fin<|WP.seq<|rg 2 2<|lds 0 rfl trivial rfl sg32 rfl rfl<|sx 1 rfl trivial rfl rfl cA sz32 rfl rfl rfl nofun ?_
  refine .fin ?_
  cases H.out; exact r3 i2 rfl (.cons (res_cells rfl underlying32 rfl c32 (mem_at 1 rfl) rfl) .nil)
 refine WP.seq<|rg 2 0<|bn0 rfl rfl rfl run_eq<|as0 rfl rfl<|.fin<|cd H rfl (fun _ H=>?_) (fun _ H=>?_)
 rotate_left
 ·
  refine rg 5 16<|fb rfl trivial rfl fa32_7<|ld 2 rfl trivial rfl sc3 rfl rfl<|el H fun tp haj H=>cl rfl cal12 rfl (r01_Around.c haj)<|fb rfl trivial rfl fa32_8<|sx 0 rfl trivial rfl rfl cE sz3 rfl rfl rfl nofun ?_
  refine .fin<|WP.seq<|rg 2 2<|lds 0 rfl trivial rfl sg32 rfl rfl<|sx 1 rfl trivial rfl rfl cA sz32 rfl rfl rfl nofun ?_
  refine .fin ?_
  cases H.out; exact r3 i2 rfl (.cons (res_cells rfl underlying32 rfl c32 (mem_at 1 rfl) rfl) .nil)
 refine WP.seq<|rg 5 16<|fb rfl trivial rfl fa32_7<|ld 2 rfl trivial rfl sc3 rfl rfl<|el H fun tq hak H=>cl rfl cal26 rfl (r01_RoomOf.c hak)<|fb rfl trivial rfl fa32_1<|sx 0 rfl trivial rfl rfl cE sz9 rfl rfl rfl nofun ?_
 refine .fin<|WP.seq<|rg 4 8<|fb rfl trivial rfl fa32_6<|ld 2 rfl trivial rfl sc4 rfl rfl<|fb rfl trivial rfl fa32_6<|sx 0 rfl trivial rfl rfl cE sz4 rfl rfl rfl nofun ?_
 refine .fin<|WP.seq<|rg 2 0<|fb rfl trivial rfl fa32_6<|ld 2 rfl trivial rfl sc4 rfl rfl<|.fin<|cd H rfl (fun _ H=>?_) (fun _ H=>?_)
 rotate_left
 ·
  refine WP.skip<|WP.seq<|rg 2 2<|lds 0 rfl trivial rfl sg32 rfl rfl<|sx 1 rfl trivial rfl rfl cA sz32 rfl rfl rfl nofun ?_
  refine .fin ?_
  cases H.out; exact r3 i2 rfl (.cons (res_cells rfl underlying32 rfl c32 (mem_at 1 rfl) rfl) .nil)
 refine rg 6 32<|fb rfl trivial rfl fa32_7<|ld 2 rfl trivial rfl sc3 rfl rfl<|el H fun tu ham H=>cl rfl cal12 rfl (r01_Around.c ham)<|bn0 rfl rfl rfl run_add<|fb rfl trivial rfl fa32_7<|sx 0 rfl trivial rfl rfl cE sz3 rfl rfl rfl nofun ?_
 refine .fin<|WP.seq<|rg 2 2<|lds 0 rfl trivial rfl sg32 rfl rfl<|sx 1 rfl trivial rfl rfl cA sz32 rfl rfl rfl nofun ?_
 refine .fin ?_
 cases H.out; exact r3 i2 rfl (.cons (res_cells rfl underlying32 rfl c32 (mem_at 1 rfl) rfl) .nil)
theorem r03_Same.c (h:r03_Same.f a0 a1=some r):Pt prog 129 [agg (Edu.enc a0),agg (Edu.enc a1)] (vB r):=by
 unfold r03_Same.f at h
 refine pb func129 ntmps129 h fun R0 F H=>?_
 refine WP.seq<|rg 3 3<|Dv.box rfl trivial rfl cA nofun fun ba=>Dv.box rfl trivial rfl cA nofun fun bc=>as0 rfl rfl<|.fin<|WP.seq<|rg 34 0<|fb rfl trivial rfl fa32_0<|ld 1 rfl trivial rfl sc3 rfl rfl<|fb rfl trivial rfl fa32_0<|ld 0 rfl trivial rfl sc3 rfl rfl<|bn0 rfl rfl rfl run_eq<|mv0 rfl rfl ?_
 cases cc:(a0.fKind==a1.fKind)
 ·
  have H:=H.cf cc
  refine sk rfl rfl<|sk rfl rfl<|sk rfl rfl<|sk rfl rfl<|sk rfl rfl<|pf0 rfl rfl rfl<|mv0 rfl rfl<|sk rfl rfl<|sk rfl rfl<|sk rfl rfl<|sk rfl rfl<|sk rfl rfl<|pf0 rfl rfl rfl<|mv0 rfl rfl<|sk rfl rfl<|sk rfl rfl<|sk rfl rfl<|sk rfl rfl<|sk rfl rfl<|pf0 rfl rfl rfl<|mv0 rfl rfl<|sk rfl rfl<|sk rfl rfl<|sk rfl rfl<|sk rfl rfl<|sk rfl rfl<|pf0 rfl rfl rfl<|as0 rfl rfl<|.fin ?_
  cases H.out; exact r2 i2 rfl (.cons (res_tmp rfl) .nil)
 have H:=H.ct cc
 refine fb rfl (gg rfl) rfl fa32_1<|ld 1 rfl (gg rfl) rfl sc9 rfl rfl<|fb rfl (gg rfl) rfl fa32_1<|ld 0 rfl (gg rfl) rfl sc9 rfl rfl<|bng rfl rfl rfl rfl run_seq<|pt0 rfl rfl rfl<|mv0 rfl rfl ?_
 cases ce:decide (a0.fRoom=a1.fRoom)
 ·
  have H:=H.cf ce
  refine sk rfl rfl<|sk rfl rfl<|sk rfl rfl<|sk rfl rfl<|sk rfl rfl<|pf0 rfl rfl rfl<|mv0 rfl rfl<|sk rfl rfl<|sk rfl rfl<|sk rfl rfl<|sk rfl rfl<|sk rfl rfl<|pf0 rfl rfl rfl<|mv0 rfl rfl<|sk rfl rfl<|sk rfl rfl<|sk rfl rfl<|sk rfl rfl<|sk rfl rfl<|pf0 rfl rfl rfl<|as0 rfl rfl<|.fin ?_
  cases H.out; exact r2 i2 rfl (.cons (res_tmp rfl) .nil)
 have H:=H.ct ce
 refine fb rfl (gg rfl) rfl fa32_2<|ld 1 rfl (gg rfl) rfl sc9 rfl rfl<|fb rfl (gg rfl) rfl fa32_2<|ld 0 rfl (gg rfl) rfl sc9 rfl rfl<|bng rfl rfl rfl rfl run_seq<|pt0 rfl rfl rfl<|mv0 rfl rfl ?_
 cases cg:decide (a0.fUser=a1.fUser)
 ·
  have H:=H.cf cg
  refine sk rfl rfl<|sk rfl rfl<|sk rfl rfl<|sk rfl rfl<|sk rfl rfl<|pf0 rfl rfl rfl<|mv0 rfl rfl<|sk rfl rfl<|sk rfl rfl<|sk rfl rfl<|sk rfl rfl<|sk rfl rfl<|pf0 rfl rfl rfl<|as0 rfl rfl<|.fin ?_
  cases H.out; exact r2 i2 rfl (.cons (res_tmp rfl) .nil)
 have H:=H.ct cg
 refine fb rfl (gg rfl) rfl fa32_4<|ld 1 rfl (gg rfl) rfl sc9 rfl rfl<|fb rfl (gg rfl) rfl fa32_4<|ld 0 rfl (gg rfl) rfl sc9 rfl rfl<|bng rfl rfl rfl rfl run_seq<|pt0 rfl rfl rfl<|mv0 rfl rfl ?_
 cases ci:decide (a0.fThread=a1.fThread)
 ·
  have H:=H.cf ci
  refine sk rfl rfl<|sk rfl rfl<|sk rfl rfl<|sk rfl rfl<|sk rfl rfl<|pf0 rfl rfl rfl<|as0 rfl rfl<|.fin ?_
  cases H.out; exact r2 i2 rfl (.cons (res_tmp rfl) .nil)
 have H:=H.ct ci
 refine fb rfl (gg rfl) rfl fa32_5<|ld 1 rfl (gg rfl) rfl sc4 rfl rfl<|fb rfl (gg rfl) rfl fa32_5<|ld 0 rfl (gg rfl) rfl sc4 rfl rfl<|bng rfl rfl rfl rfl (run_beq underlying4)<|pt0 rfl rfl rfl<|as0 rfl rfl<|.fin ?_
 cases H.out; exact r2 i2 rfl (.cons (res_tmp rfl) .nil)
theorem r17_At.c (h:r17_At.f k a0 a1=some r):Pt prog 102 [sl Edu.K a0,agg (Edu.enc a1)] (vI r):=by
 unfold r17_At.f at h
 refine pb func102 ntmps102 h fun R0 F H=>?_
 refine WP.seq<|rg 2 1<|Dv.box rfl trivial rfl cA nofun fun ba=>as0 rfl rfl<|.fin<|WP.seqr H id (fun pa:Int×Bool=>[(0,sl Edu.K a0),(1,agg (Edu.enc a1)),(3,eq (.pointer (some ⟨ba,0,none⟩))),(4,vI 0),(5,vI pa.1),(10,vB pa.2)]) (fun pa:Int×Bool=>[blk ba 32 (Edu.enc a1)]++F) (fun pa H=>?_) (fun H=>?_)
 ·
  refine WP.seq<|rg 1 0<|as0 rfl rfl<|.fin ?_
  cases H.out; exact r1 i2 rfl (.cons (res_tmp rfl) .nil)
 refine WP.seq<|rg 1 0<|as0 rfl rfl<|.fin<|WP.block<|wg (sg 1 [0] 0) fun _ _=>?_
 refine lp (fun j_ (pc:Int)=>r17_At.l0 k a0 a1 j_ pc) 0 H (fun pc=>[(0,sl Edu.K a0),(1,agg (Edu.enc a1)),(3,eq (.pointer (some ⟨ba,0,none⟩))),(4,vI 0),(5,vI pc)]) (fun pc=>[blk ba 32 (Edu.enc a1)]++F) ?_
 rintro j_ xa H
 rcases j_ with _ | ja
 ·
  exact (Gets.no H).elim
 try dsimp only at H
 rw [r17_At.l0] at H
 refine WP.seq<|WP.seq<|rg 4 0<|mv0 rfl rfl<|mv0 rfl rfl<|Dv.lenl rfl trivial rfl underlying23<|bn0 rfl rfl rfl run_lt<|.fin<|cd H rfl (fun _ H=>?_) (fun _ H=>?_)
 rotate_left
 ·
  refine WP.exit ?_
  have H:=H.out
  exact jn (xa,decide (xa<(a0.length:Int))) H
 refine WP.skip<|WP.seq<|WP.block<|WP.seq<|dg Tryz.checked.mixed 7 0<|mv0 rfl rfl<|mv0 rfl rfl<|gr H fun ga H=>Dv.ixr rfl trivial rfl rfl underlying23 underlying32 c32 ga.1 ga.2<|ldsR rfl trivial rfl sg32 rfl<|lds 0 rfl trivial rfl sg32 rfl rfl<|el H fun ta haa H=>cl rfl cal129 rfl (r03_Same.c haa)<|as0 rfl rfl<|.fin<|WP.seq<|rg 1 0<|mv0 rfl rfl<|.fin<|cd H rfl (fun _ H=>?_) (fun _ H=>?_)
 rotate_left
 ·
  exact WP.skip<|rg 3 0<|mv0 rfl rfl<|bn0 rfl rfl rfl run_add<|as0 rfl rfl<|.fin<|bk ja (w64 (xa+1)) H
 refine WP.seq<|rg 2 0<|mv0 rfl rfl<|as0 rfl rfl<|.fin ?_
 have H:=H.outr
 cases H.out; exact r1 i2 rfl (.cons (res_tmp rfl) .nil)
theorem r02_Number.c:∀ (k:Nat) {a0:Int} {r:(List Int)} (h:r02_Number.f k a0=some r),Tr prog 157 [vI a0] [] (γ:=OV) (fun _=>True) (fun g=>eq g.1) (fun g=>[own (intK .u8) g.1 r])
  | 0,_,_,h=>by cases h
  | k+1,a0,r,h=>by
    rw [r02_Number.f] at h
    refine tb func157 ntmps157 h fun R0 F H=>?_
    refine WP.seq<|rg 1 0<|as0 rfl rfl<|.fin<|WP.seqn H id (fun pa:Int=>[(0,vI pa),(2,eq (.slice none 0 0)),(5,vB (decide (a0<0)))]) (fun pa:Int=>F) (fun pa H=>?_) (fun H=>?_)
    rotate_left
    ·
     refine WP.seq<|rg 2 0<|mv0 rfl rfl<|bn0 rfl rfl rfl run_lt<|.fin<|cd H rfl (fun _ H=>?_) (fun _ H=>?_)
     rotate_left
     ·
      refine WP.skip ?_
      have H:=H.out
      exact jn a0 H
     refine rg 1 0<|as0 rfl rfl<|.fin ?_
     have H:=H.out
     exact jn 0 H
    refine WP.seq<|WP.seq<|rg 2 0<|mv0 rfl rfl<|bn0 rfl rfl rfl run_lt<|.fin<|cd H rfl (fun _ H=>?_) (fun _ H=>?_)
    ·
     refine WP.seq<|rg 4 4<|mv0 rfl rfl<|Dv.cvi rfl trivial rfl underlying3 underlying5<|Dv.lito (intK .u8) ([IntKind.u8.wrap (pa)]:List Int) (css:=[[eq (.int .u8 (IntKind.u8.wrap (pa)))]]) rfl trivial underlying131 underlying5 c5 z5 rfl (by decide) (by decide) rfl ⟨(cells_one (one_eq rfl)),trivial⟩ rfl rfl rfl nofun (fun va=>?_)
     refine as0 rfl rfl<|.fin ?_
     obtain rfl:=Gets.out H
     exact rt i2 rfl va 1 [0] 0 (.cons (res_tmp rfl) .nil)
    refine WP.skip<|WP.seq<|rg 6 16<|mv0 rfl rfl<|bn0 rfl rfl rfl (run_rem (by decide))<|bn0 rfl rfl rfl run_add<|Dv.cvi rfl trivial rfl underlying3 underlying5<|Dv.lito (intK .u8) ([IntKind.u8.wrap (w64 (128+(pa.tmod 128)))]:List Int) (css:=[[eq (.int .u8 (IntKind.u8.wrap (w64 (128+(pa.tmod 128)))))]]) rfl trivial underlying131 underlying5 c5 z5 rfl (by decide) (by decide) rfl ⟨(cells_one (one_eq rfl)),trivial⟩ rfl rfl rfl nofun (fun vb=>?_)
    refine as0 rfl rfl<|.fin<|WP.seq<|rg 6 24<|mv0 rfl rfl<|mv0 rfl rfl<|bn0 rfl rfl rfl (run_quo (by decide))<|el H fun ta haa H=>cx 1 [0] cal157 (r02_Number.c k haa) nofun fun ga _=>?_
    refine gr H fun gb H=>ap (intK .u8) 1 ta (src_own (mem_at 0 rfl)) underlying131 (.inr ⟨_,underlying131⟩) inf5 gb nofun fun vd=>?_
    refine as0 rfl rfl<|.fin ?_
    obtain rfl:=Gets.out H
    exact rt i2 rfl vd 2 [0,1] 1 (.cons (res_tmp rfl) .nil)
theorem r02_Text.c (h:r02_Text.f k a0=some r):Tr prog 158 [vS a0] [] (γ:=OV) (fun _=>True) (fun g=>eq g.1) (fun g=>[own (intK .u8) g.1 r]):=by
 unfold r02_Text.f at h
 refine tb func158 ntmps158 h fun R0 F H=>?_
 refine WP.seq<|rg 1 0<|as0 rfl rfl<|.fin<|WP.seq<|rg 6 20<|mv0 rfl rfl<|Dv.lens rfl trivial rfl underlying9<|el H fun ta haa H=>cx 0 [] cal157 (r02_Number.c _ haa) nofun fun ga _=>?_
 refine mv0 rfl rfl<|gr H fun gb H=>ap (intK .u8) 0 (strBs a0) src_str underlying131 (.inl underlying9) inf5 gb nofun fun va=>?_
 refine as0 rfl rfl<|.fin ?_
 obtain rfl:=Gets.out H
 exact rt i2 rfl va 1 [0] 0 (.cons (res_tmp rfl) .nil)
theorem r02_Flag.c (h:r02_Flag.f a0=some r):Pt prog 159 [vB a0] (sl (intK .u8) r):=by
 unfold r02_Flag.f at h
 refine pb func159 ntmps159 h fun R0 F H=>?_
 refine WP.seq<|rg 1 0<|as0 rfl rfl<|.fin<|WP.seq<|WP.seq<|rg 1 0<|mv0 rfl rfl<|.fin<|cd H rfl (fun _ H=>?_) (fun _ H=>?_)
 ·
  refine WP.seq<|rg 2 0<|Dv.lit (intK .u8) ([1]:List Int) (css:=[[eq (.int .u8 1)]]) rfl trivial underlying131 underlying5 c5 z5 rfl (by decide) (by decide) rfl ⟨(cells_one (one_eq rfl)),trivial⟩ rfl rfl rfl<|as0 rfl rfl<|.fin ?_
  cases H.out; exact r0 i2 rfl (.cons (res_tmp rfl) .nil)
 refine WP.skip<|WP.seq<|rg 2 0<|Dv.lit (intK .u8) ([0]:List Int) (css:=[[eq (.int .u8 0)]]) rfl trivial underlying131 underlying5 c5 z5 rfl (by decide) (by decide) rfl ⟨(cells_one (one_eq rfl)),trivial⟩ rfl rfl rfl<|as0 rfl rfl<|.fin ?_
 cases H.out; exact r0 i2 rfl (.cons (res_tmp rfl) .nil)
theorem r03_Bytes.c (h:r03_Bytes.f k a0=some r):Tr prog 130 [agg (Edu.enc a0)] [] (γ:=OV) (fun _=>True) (fun g=>eq g.1) (fun g=>[own (intK .u8) g.1 r]):=by
 unfold r03_Bytes.f at h
 refine tb func130 ntmps130 h fun R0 F H=>?_
 refine WP.seq<|rg 2 1<|Dv.box rfl trivial rfl cA nofun fun ba=>as0 rfl rfl<|.fin<|WP.seq<|rg 4 4<|fb rfl trivial rfl fa32_0<|ld 0 rfl trivial rfl sc3 rfl rfl<|el H fun ta haa H=>cx 1 [0] cal157 (r02_Number.c _ haa) nofun fun ga _=>?_
 refine as0 rfl rfl<|.fin<|WP.seq<|rg 6 24<|mv0 rfl rfl<|fb rfl trivial rfl fa32_1<|ld 1 rfl trivial rfl sc9 rfl rfl<|el H fun tc hac H=>cx 2 [0,1] cal158 (r02_Text.c hac) nofun fun gb _=>?_
 refine gr H fun gi H=>ap (intK .u8) 1 tc (src_own (mem_at 0 rfl)) underlying131 (.inr ⟨_,underlying131⟩) inf5 gi nofun fun va=>?_
 refine as0 rfl rfl<|.fin<|WP.seq<|rg 6 24<|mv0 rfl rfl<|fb rfl trivial rfl fa32_2<|ld 2 rfl trivial rfl sc9 rfl rfl<|el H fun te had H=>cx 3 [0,1,2] cal158 (r02_Text.c had) nofun fun gj _=>?_
 refine gr H fun gk H=>ap (intK .u8) 2 te (src_own (mem_at 0 rfl)) underlying131 (.inr ⟨_,underlying131⟩) inf5 gk nofun fun vb=>?_
 refine as0 rfl rfl<|.fin<|WP.seq<|rg 6 24<|mv0 rfl rfl<|fb rfl trivial rfl fa32_3<|ld 3 rfl trivial rfl sc9 rfl rfl<|el H fun tf hae H=>cx 4 [0,1,2,3] cal158 (r02_Text.c hae) nofun fun gl _=>?_
 refine gr H fun gn H=>ap (intK .u8) 3 tf (src_own (mem_at 0 rfl)) underlying131 (.inr ⟨_,underlying131⟩) inf5 gn nofun fun vd=>?_
 refine as0 rfl rfl<|.fin<|WP.seq<|rg 6 24<|mv0 rfl rfl<|fb rfl trivial rfl fa32_4<|ld 4 rfl trivial rfl sc9 rfl rfl<|el H fun tg haf H=>cx 5 [0,1,2,3,4] cal158 (r02_Text.c haf) nofun fun go _=>?_
 refine gr H fun gp H=>ap (intK .u8) 4 tg (src_own (mem_at 0 rfl)) underlying131 (.inr ⟨_,underlying131⟩) inf5 gp nofun fun vh=>?_
 refine as0 rfl rfl<|.fin<|WP.seq<|rg 6 16<|mv0 rfl rfl<|fb rfl trivial rfl fa32_6<|ld 5 rfl trivial rfl sc4 rfl rfl<|el H fun tj hag H=>cl rfl cal159 rfl (r02_Flag.c hag)<|gr H fun gq H=>ap (intK .u8) 4 tj src_sl underlying131 (.inr ⟨_,underlying131⟩) inf5 gq nofun fun vi=>?_
 refine as0 rfl rfl<|.fin<|WP.seq<|rg 6 24<|mv0 rfl rfl<|fb rfl trivial rfl fa32_7<|ld 5 rfl trivial rfl sc3 rfl rfl<|el H fun tm hah H=>cx 6 [0,1,2,3,4,5] cal157 (r02_Number.c _ hah) nofun fun gt _=>?_
 refine gr H fun gu H=>ap (intK .u8) 5 tm (src_own (mem_at 0 rfl)) underlying131 (.inr ⟨_,underlying131⟩) inf5 gu nofun fun vj=>?_
 refine as0 rfl rfl<|.fin<|WP.seq<|rg 6 24<|mv0 rfl rfl<|fb rfl trivial rfl fa32_8<|ld 6 rfl trivial rfl sc3 rfl rfl<|el H fun tn hai H=>cx 7 [0,1,2,3,4,5,6] cal157 (r02_Number.c _ hai) nofun fun gv _=>?_
 refine gr H fun gw H=>ap (intK .u8) 6 tn (src_own (mem_at 0 rfl)) underlying131 (.inr ⟨_,underlying131⟩) inf5 gw nofun fun vk=>?_
 refine as0 rfl rfl<|.fin<|WP.seq<|rg 6 24<|mv0 rfl rfl<|fb rfl trivial rfl fa32_9<|ld 7 rfl trivial rfl sc3 rfl rfl<|el H fun tp haj H=>cx 8 [0,1,2,3,4,5,6,7] cal157 (r02_Number.c _ haj) nofun fun gy _=>?_
 refine gr H fun gz H=>ap (intK .u8) 7 tp (src_own (mem_at 0 rfl)) underlying131 (.inr ⟨_,underlying131⟩) inf5 gz nofun fun vl=>?_
 refine as0 rfl rfl<|.fin<|WP.seq<|rg 6 24<|mv0 rfl rfl<|fb rfl trivial rfl fa32_10<|ld 8 rfl trivial rfl sc3 rfl rfl<|el H fun tq hak H=>cx 9 [0,1,2,3,4,5,6,7,8] cal157 (r02_Number.c _ hak) nofun fun gaa _=>?_
 refine gr H fun gab H=>ap (intK .u8) 8 tq (src_own (mem_at 0 rfl)) underlying131 (.inr ⟨_,underlying131⟩) inf5 gab nofun fun vm=>?_
 refine as0 rfl rfl<|.fin ?_
 obtain rfl:=Gets.out H
 exact rt i2 rfl vm 10 [0,1,2,3,4,5,6,7,9,8] 9 (.cons (res_tmp rfl) .nil)
theorem r03_Compare.c (h:r03_Compare.f k a0 a1=some r):Pt prog 103 [agg (Edu.enc a0),agg (Edu.enc a1)] (vI r):=by
 unfold r03_Compare.f at h
 refine pb func103 ntmps103 h fun R0 F H=>?_
 refine WP.seq<|rg 3 3<|Dv.box rfl trivial rfl cA nofun fun ba=>Dv.box rfl trivial rfl cA nofun fun bc=>as0 rfl rfl<|.fin<|WP.seq<|WP.seq<|rg 5 0<|fb rfl trivial rfl fa32_10<|ld 1 rfl trivial rfl sc3 rfl rfl<|fb rfl trivial rfl fa32_10<|ld 0 rfl trivial rfl sc3 rfl rfl<|bn0 rfl rfl rfl run_lt<|.fin<|cd H rfl (fun _ H=>?_) (fun _ H=>?_)
 ·
  refine WP.seq<|rg 1 0<|as0 rfl rfl<|.fin ?_
  cases H.out; exact r2 i2 rfl (.cons (res_tmp rfl) .nil)
 refine WP.skip<|WP.seq<|WP.seq<|rg 5 0<|fb rfl trivial rfl fa32_10<|ld 1 rfl trivial rfl sc3 rfl rfl<|fb rfl trivial rfl fa32_10<|ld 0 rfl trivial rfl sc3 rfl rfl<|bn0 rfl rfl rfl run_gt<|.fin<|cd H rfl (fun _ H=>?_) (fun _ H=>?_)
 ·
  refine WP.seq<|rg 1 0<|as0 rfl rfl<|.fin ?_
  cases H.out; exact r2 i2 rfl (.cons (res_tmp rfl) .nil)
 refine WP.skip<|WP.seq<|rg 4 2<|lds 1 rfl trivial rfl sg32 rfl rfl<|el H fun ta haa H=>cx 2 [0,1] cal130 (r03_Bytes.c haa) nofun fun ga _=>?_
 refine Dv.gh (gh_frz (E':=[(0,agg (Edu.enc a0)),(1,agg (Edu.enc a1)),(2,eq (.pointer (some ⟨ba,0,none⟩))),(3,eq (.pointer (some ⟨bc,0,none⟩))),(4,vI 0),(11,vB (decide (a0.fStamp<a1.fStamp))),(16,vB (decide (a1.fStamp<a0.fStamp))),(18,sl (intK .u8) ta)]) (l':=[blk bc 32 (Edu.enc a1),blk ba 32 (Edu.enc a0)]++F) 0 rfl (cve_cons rfl cv_id (cve_cons rfl cv_id (cve_cons rfl cv_id (cve_cons rfl cv_id (cve_cons rfl cv_id (cve_cons rfl cv_id (cve_cons rfl cv_id (cve_cons rfl cv_eq cve_nil)))))))) (all2_app (.cons cva_id (.cons cva_id .nil)) fun _=>cva_id)) (fun _ _=>?_)
 refine Dv.cvbs rfl trivial rfl underlying131 underlying5 underlying9<|as0 rfl rfl<|.fin<|WP.seq<|rg 4 2<|lds 0 rfl trivial rfl sg32 rfl rfl<|el H fun tc hac H=>cx 2 [0,1] cal130 (r03_Bytes.c hac) nofun fun gb _=>?_
 refine Dv.gh (gh_frz (E':=[(0,agg (Edu.enc a0)),(1,agg (Edu.enc a1)),(2,eq (.pointer (some ⟨ba,0,none⟩))),(3,eq (.pointer (some ⟨bc,0,none⟩))),(4,vI 0),(5,vS (ofNums ta)),(11,vB (decide (a0.fStamp<a1.fStamp))),(16,vB (decide (a1.fStamp<a0.fStamp))),(21,sl (intK .u8) tc)]) (l':=[blk bc 32 (Edu.enc a1),blk ba 32 (Edu.enc a0)]++F) 0 rfl (cve_cons rfl cv_id (cve_cons rfl cv_id (cve_cons rfl cv_id (cve_cons rfl cv_id (cve_cons rfl cv_id (cve_cons rfl cv_id (cve_cons rfl cv_id (cve_cons rfl cv_id (cve_cons rfl cv_eq cve_nil))))))))) (all2_app (.cons cva_id (.cons cva_id .nil)) fun _=>cva_id)) (fun _ _=>?_)
 refine Dv.cvbs rfl trivial rfl underlying131 underlying5 underlying9<|as0 rfl rfl<|.fin<|WP.seq<|WP.seq<|rg 3 0<|mv0 rfl rfl<|mv0 rfl rfl<|bn0 rfl rfl rfl run_slt<|.fin<|cd H rfl (fun _ H=>?_) (fun _ H=>?_)
 ·
  refine WP.seq<|rg 1 0<|as0 rfl rfl<|.fin ?_
  cases H.out; exact r2 i2 rfl (.cons (res_tmp rfl) .nil)
 refine WP.skip<|WP.seq<|WP.seq<|rg 3 0<|mv0 rfl rfl<|mv0 rfl rfl<|bn0 rfl rfl rfl run_sgt<|.fin<|cd H rfl (fun _ H=>?_) (fun _ H=>?_)
 ·
  refine WP.seq<|rg 1 0<|as0 rfl rfl<|.fin ?_
  cases H.out; exact r2 i2 rfl (.cons (res_tmp rfl) .nil)
 refine WP.skip<|WP.seq<|rg 1 0<|as0 rfl rfl<|.fin ?_
 cases H.out; exact r2 i2 rfl (.cons (res_tmp rfl) .nil)
theorem r17_Put.c (h:r17_Put.f k a0 a1=some r):Pt prog 71 [agg (RQue.enc a0),agg (Edu.enc a1)] (tup [agg (RQue.enc r.1),agg (Edu.enc r.2.1),vB r.2.2.1,vI r.2.2.2]):=by
 unfold r17_Put.f at h
 refine pb func71 ntmps71 h fun R0 F H=>?_
 refine WP.seq<|rg 6 15<|Dv.box rfl trivial rfl cA nofun fun ba=>Dv.box rfl trivial rfl cA nofun fun bc=>al rfl trivial zc77 nofun fun bd=>al rfl trivial zc32 nofun fun be=>as0 rfl rfl<|as0 rfl rfl<|.fin<|WP.seq<|rg 3 0<|lds 2 rfl trivial rfl sg32 rfl rfl<|el H fun ta haa H=>cl rfl cal86 rfl (r03_May.c haa)<|as0 rfl rfl<|.fin<|WP.seq<|WP.seq<|rg 2 0<|mv0 rfl rfl<|un0 rfl rfl (run_not _)<|.fin<|cd H rfl (fun _ H=>?_) (fun _ H=>?_)
 ·
  refine WP.seq<|rg 6 12<|lds 3 rfl trivial rfl sg77 rfl rfl<|Dv.bld (qs:=[vI 0,vS (⟨#[]⟩:ByteArray),vS (⟨#[]⟩:ByteArray),vS (⟨#[]⟩:ByteArray),vS (⟨#[]⟩:ByteArray),vB false,vB false,vI 0,vI 0,vI 0,vI 0]) (css:=[]) rfl trivial underlying32 pl32 z32 rfl trivial rfl rfl<|sx 1 rfl trivial rfl rfl cA sz77 rfl rfl rfl nofun ?_
  refine sx 0 rfl trivial rfl rfl cA sz32 rfl rfl rfl nofun ?_
  refine as0 rfl rfl<|as0 rfl rfl<|.fin ?_
  cases H.out; exact r4 i2 rfl (.cons (res_cells rfl underlying77 rfl c77 (mem_at 1 rfl) rfl) (.cons (res_cells rfl underlying32 rfl c32 (mem_at 0 rfl) rfl) (.cons (res_tmp rfl) (.cons (res_tmp rfl) .nil))))
 refine WP.skip<|WP.seq<|rg 5 0<|fb rfl trivial rfl fa77_1<|ld 3 rfl trivial rfl sc23 rfl rfl<|lds 2 rfl trivial rfl sg32 rfl rfl<|el H fun tc hac H=>cl rfl cal102 rfl (r17_At.c hac)<|as0 rfl rfl<|.fin<|WP.seq<|rg 1 0<|as0 rfl rfl<|.fin<|WP.seqr H (fun qa:(List Edu)×OV=>qa.1) (fun qa:(List Edu)×OV=>[(0,agg (RQue.enc a0)),(1,agg (Edu.enc a1)),(2,eq (.pointer (some ⟨ba,0,none⟩))),(3,eq (.pointer (some ⟨bc,0,none⟩))),(4,eq (.pointer (some ⟨bd,0,none⟩))),(5,eq (.pointer (some ⟨be,0,none⟩))),(6,vB false),(7,vI 0),(8,vB ta),(9,vI tc),(10,eq qa.2.1),(14,vB (!ta)),(22,vB (decide (0≤tc)))]) (fun qa:(List Edu)×OV=>[blk be 32 [vI 0,vS (⟨#[]⟩:ByteArray),vS (⟨#[]⟩:ByteArray),vS (⟨#[]⟩:ByteArray),vS (⟨#[]⟩:ByteArray),vB false,vB false,vI 0,vI 0,vI 0,vI 0],blk bd 77 [vI 0,eq (.slice none 0 0),vI 0],blk bc 32 (Edu.enc a1),blk ba 77 (RQue.enc a0),own Edu.K qa.2.1 qa.1]++F) (fun qa H=>?_) (fun H=>?_)
 rotate_left
 ·
  refine WP.seq<|rg 2 0<|mv0 rfl rfl<|bn0 rfl rfl rfl run_ge<|.fin<|cd H rfl (fun _ H=>?_) (fun _ H=>?_)
  rotate_left
  ·
   refine rg 5 8<|mv0 rfl rfl<|fb rfl trivial rfl fa77_1<|ld 3 rfl trivial rfl sc23 rfl rfl<|vg (st_nil Edu.K none) fun _ _=>?_
   refine gr H fun ga H=>ap Edu.K 0 a0.fL src_sl underlying23 (.inr ⟨_,underlying23⟩) inf32 ga nofun fun va=>?_
   refine as0 rfl rfl<|.fin ?_
   have H:=H.out
   refine ng (sg 5 [1,2,3,4,0] 0) fun _ _=>?_
   exact jn (([]:List Edu)++a0.fL,va) H
  refine WP.seq<|WP.seq<|dg Tryz.checked.mixed 8 0<|lds 2 rfl trivial rfl sg32 rfl rfl<|fb rfl trivial rfl fa77_1<|ld 3 rfl trivial rfl sc23 rfl rfl<|mv0 rfl rfl<|gr H fun gb H=>Dv.ixr rfl trivial rfl rfl underlying23 underlying32 c32 gb.1 gb.2<|ldsR rfl trivial rfl sg32 rfl<|el H fun te had H=>cl rfl cal103 rfl (r03_Compare.c had)<|bn0 rfl rfl rfl run_le<|.fin<|cd H rfl (fun _ H=>?_) (fun _ H=>?_)
  ·
   refine WP.seq<|rg 6 12<|lds 3 rfl trivial rfl sg77 rfl rfl<|Dv.bld (qs:=[vI 0,vS (⟨#[]⟩:ByteArray),vS (⟨#[]⟩:ByteArray),vS (⟨#[]⟩:ByteArray),vS (⟨#[]⟩:ByteArray),vB false,vB false,vI 0,vI 0,vI 0,vI 0]) (css:=[]) rfl trivial underlying32 pl32 z32 rfl trivial rfl rfl<|sx 1 rfl trivial rfl rfl cA sz77 rfl rfl rfl nofun ?_
   refine sx 0 rfl trivial rfl rfl cA sz32 rfl rfl rfl nofun ?_
   refine as0 rfl rfl<|as0 rfl rfl<|.fin ?_
   have H:=H.outr
   cases H.out; exact r4 i2 rfl (.cons (res_cells rfl underlying77 rfl c77 (mem_at 1 rfl) rfl) (.cons (res_cells rfl underlying32 rfl c32 (mem_at 0 rfl) rfl) (.cons (res_tmp rfl) (.cons (res_tmp rfl) .nil))))
  refine WP.skip<|WP.seq<|rg 7 32<|mv0 rfl rfl<|fb rfl trivial rfl fa77_1<|ld 3 rfl trivial rfl sc23 rfl rfl<|mv0 rfl rfl<|gr H fun gi H=>Dv.sls rfl trivial rfl underlying23 underlying32 c32 bdE_none (bdE_some rfl gi.1) gi.2.1 gi.2.2<|vg (st_nil Edu.K none) fun _ _=>?_
  refine gr H fun gj H=>ap Edu.K 0 ((a0.fL.take tc.toNat).drop 0) src_sl underlying23 (.inr ⟨_,underlying23⟩) inf32 gj nofun fun vb=>?_
  refine as0 rfl rfl<|.fin<|rg 8 64<|mv0 rfl rfl<|fb rfl trivial rfl fa77_1<|ld 4 rfl trivial rfl sc23 rfl rfl<|mv0 rfl rfl<|bn0 rfl rfl rfl run_add<|gr H fun gk H=>Dv.sls rfl trivial rfl underlying23 underlying32 c32 (bdE_some rfl gk.1) bdE_none gk.2.1 gk.2.2<|gr H fun gl H=>ap Edu.K 0 ((a0.fL.take a0.fL.length).drop ((w64 (tc+1)).toNat)) src_sl underlying23 (.inr ⟨_,underlying23⟩) inf32 gl nofun fun vd=>?_
  refine as0 rfl rfl<|.fin ?_
  have H:=H.out
  refine ng (sg 5 [1,2,3,4,0] 0) fun _ _=>?_
  exact jn ((([]:List Edu)++((a0.fL.take tc.toNat).drop 0))++((a0.fL.take a0.fL.length).drop ((w64 (tc+1)).toNat)),vd) H
 obtain ⟨pa,vh⟩:=qa
 refine WP.seq<|rg 5 8<|mv0 rfl rfl<|lds 2 rfl trivial rfl sg32 rfl rfl<|Dv.lit Edu.K ([a1]:List Edu) (css:=[Edu.enc a1]) rfl trivial underlying23 underlying32 c32 z32 rfl (by decide) (by decide) rfl ⟨(cells_agg (Edu.K.one _)),trivial⟩ rfl rfl rfl<|gr H fun gn H=>ap Edu.K 4 ([a1]:List Edu) src_sl underlying23 (.inr ⟨_,underlying23⟩) inf32 gn nofun fun vi=>?_
 refine as0 rfl rfl<|.fin<|WP.seq<|WP.seq<|rg 5 0<|mv0 rfl rfl<|Dv.lenw rfl trivial rfl (mem_at 4 rfl) underlying23<|fb rfl trivial rfl fa77_0<|ld 3 rfl trivial rfl sc3 rfl rfl<|bn0 rfl rfl rfl run_gt<|.fin<|cd H rfl (fun _ H=>?_) (fun _ H=>?_)
 rotate_left
 ·
  refine WP.skip<|WP.seq<|rg 11 384<|fb rfl trivial rfl fa77_0<|ld 3 rfl trivial rfl sc3 rfl rfl<|mv0 rfl rfl<|fb rfl trivial rfl fa77_2<|ld 3 rfl trivial rfl sc3 rfl rfl<|Dv.bld (qs:=[vI a0.fMost,eq vi.1,vI a0.fLost]) (css:=[[vI a0.fMost],[eq vi.1],[vI a0.fLost]]) rfl trivial underlying77 pl77 z77 rfl ⟨(cells_one (one_eq rfl)),⟨(cells_one one_ov),⟨(cells_one (one_eq rfl)),trivial⟩⟩⟩ rfl rfl<|Dv.bld (qs:=[vI 0,vS (⟨#[]⟩:ByteArray),vS (⟨#[]⟩:ByteArray),vS (⟨#[]⟩:ByteArray),vS (⟨#[]⟩:ByteArray),vB false,vB false,vI 0,vI 0,vI 0,vI 0]) (css:=[]) rfl trivial underlying32 pl32 z32 rfl trivial rfl rfl<|sx 1 rfl trivial rfl rfl cA sz77 rfl rfl rfl nofun ?_
  refine sx 0 rfl trivial rfl rfl cA sz32 rfl rfl rfl nofun ?_
  refine as0 rfl rfl<|as0 rfl rfl<|.fin<|WP.gh (gh_frz (E':=[(4,eq (.pointer (some ⟨bd,0,none⟩))),(5,eq (.pointer (some ⟨be,0,none⟩))),(6,vB false),(7,vI 0)]) (l':=[blk be 32 [vI 0,vS (⟨#[]⟩:ByteArray),vS (⟨#[]⟩:ByteArray),vS (⟨#[]⟩:ByteArray),vS (⟨#[]⟩:ByteArray),vB false,vB false,vI 0,vI 0,vI 0,vI 0],blk bd 77 [vI a0.fMost,sl Edu.K (pa++([a1]:List Edu)),vI a0.fLost],blk bc 32 (Edu.enc a1),blk ba 77 (RQue.enc a0)]++F) 4 rfl (cve_cons rfl cv_id (cve_cons rfl cv_id (cve_cons rfl cv_id (cve_cons rfl cv_id cve_nil)))) (all2_app (.cons cva_id (.cons (cva_blk (.cons cv_id (.cons cv_eq (.cons cv_id .nil)))) (.cons cva_id (.cons cva_id .nil)))) fun _=>cva_id)) (fun _ _=>?_)
  cases H.out; exact r4 i2 rfl (.cons (res_cells rfl underlying77 rfl c77 (mem_at 1 rfl) rfl) (.cons (res_cells rfl underlying32 rfl c32 (mem_at 0 rfl) rfl) (.cons (res_tmp rfl) (.cons (res_tmp rfl) .nil))))
 refine WP.seq<|WP.gh (gh_frz (E':=[(0,agg (RQue.enc a0)),(1,agg (Edu.enc a1)),(2,eq (.pointer (some ⟨ba,0,none⟩))),(3,eq (.pointer (some ⟨bc,0,none⟩))),(4,eq (.pointer (some ⟨bd,0,none⟩))),(5,eq (.pointer (some ⟨be,0,none⟩))),(6,vB false),(7,vI 0),(8,vB ta),(9,vI tc),(10,sl Edu.K (pa++([a1]:List Edu))),(14,vB (!ta)),(22,vB (decide (0≤tc))),(58,vB (decide (a0.fMost<((pa++([a1]:List Edu)).length:Int))))]) (l':=[blk be 32 [vI 0,vS (⟨#[]⟩:ByteArray),vS (⟨#[]⟩:ByteArray),vS (⟨#[]⟩:ByteArray),vS (⟨#[]⟩:ByteArray),vB false,vB false,vI 0,vI 0,vI 0,vI 0],blk bd 77 [vI 0,eq (.slice none 0 0),vI 0],blk bc 32 (Edu.enc a1),blk ba 77 (RQue.enc a0)]++F) 4 rfl (cve_cons rfl cv_id (cve_cons rfl cv_id (cve_cons rfl cv_id (cve_cons rfl cv_id (cve_cons rfl cv_id (cve_cons rfl cv_id (cve_cons rfl cv_id (cve_cons rfl cv_id (cve_cons rfl cv_id (cve_cons rfl cv_id (cve_cons rfl cv_eq (cve_cons rfl cv_id (cve_cons rfl cv_id (cve_cons rfl cv_id cve_nil)))))))))))))) (all2_app (.cons cva_id (.cons cva_id (.cons cva_id (.cons cva_id .nil)))) fun _=>cva_id)) (fun _ _=>?_)
 refine dg Tryz.checked.mixed 15 6144<|fb rfl trivial rfl fa77_0<|ld 3 rfl trivial rfl sc3 rfl rfl<|mv0 rfl rfl<|gr H fun go H=>Dv.sls rfl trivial rfl underlying23 underlying32 c32 (bdE_some rfl go.1) bdE_none go.2.1 go.2.2<|fb rfl trivial rfl fa77_2<|ld 3 rfl trivial rfl sc3 rfl rfl<|bn0 rfl rfl rfl run_add<|Dv.bld (qs:=[vI a0.fMost,sl Edu.K (((pa++([a1]:List Edu)).take ((pa++([a1]:List Edu)).length)).drop ((1:Int).toNat)),vI (w64 (a0.fLost+1))]) (css:=[[vI a0.fMost],[sl Edu.K (((pa++([a1]:List Edu)).take ((pa++([a1]:List Edu)).length)).drop ((1:Int).toNat))],[vI (w64 (a0.fLost+1))]]) rfl trivial underlying77 pl77 z77 rfl ⟨(cells_one (one_eq rfl)),⟨(cells_one one_sl),⟨(cells_one (one_eq rfl)),trivial⟩⟩⟩ rfl rfl<|mv0 rfl rfl<|gr H fun gp H=>Dv.ixr rfl trivial rfl rfl underlying23 underlying32 c32 gp.1 gp.2<|ldsR rfl trivial rfl sg32 rfl<|sx 1 rfl trivial rfl rfl cA sz77 rfl rfl rfl (fun _=>(pend_in (fun _=>trivial) (pend_in (fun _=>trivial) (pend_in (fun _=>trivial) (pend_by (by kernel_rfl) (pend_by (by kernel_rfl) (pend_by (by kernel_rfl) (pend_by (by kernel_rfl) (pend_by (by kernel_rfl) (pend_by (by kernel_rfl) (pend_by (by kernel_rfl) (pend_by (by kernel_rfl) pend_nil)))))))))))) ?_
 refine sx 0 rfl trivial rfl rfl cA sz32 rfl rfl rfl pB ?_
 refine as0 rfl rfl<|as0 rfl rfl<|.fin ?_
 cases H.out; exact r4 i2 rfl (.cons (res_cells rfl underlying77 rfl c77 (mem_at 1 rfl) rfl) (.cons (res_cells rfl underlying32 rfl c32 (mem_at 0 rfl) rfl) (.cons (res_tmp rfl) (.cons (res_tmp rfl) .nil))))
theorem r18_Put.c (h:r18_Put.f k a0 a1=some r):Pt prog 39 [agg (RSnd.enc a0),agg (Edu.enc a1)] (tup [agg (RSnd.enc r.1),agg (Edu.enc r.2.1),vB r.2.2.1,vI r.2.2.2]):=by
 unfold r18_Put.f at h
 refine pb func39 ntmps39 h fun R0 F H=>?_
 refine WP.seq<|rg 6 15<|Dv.box rfl trivial rfl cA nofun fun ba=>Dv.box rfl trivial rfl cA nofun fun bc=>al rfl trivial zc80 nofun fun bd=>al rfl trivial zc32 nofun fun be=>as0 rfl rfl<|as0 rfl rfl<|.fin<|WP.seq<|rg 15 7680<|fb rfl trivial rfl fa80_3<|lds 3 rfl trivial rfl sg77 rfl rfl<|lds 2 rfl trivial rfl sg32 rfl rfl<|el H fun ta haa H=>cl rfl cal71 rfl (r17_Put.c haa)<|mv0 rfl rfl<|ex0 rfl trivial rfl rfl<|ex0 rfl trivial rfl rfl<|ex0 rfl trivial rfl rfl<|ex0 rfl trivial rfl rfl<|al rfl trivial zc77 nofun fun bg=>al rfl trivial zc32 nofun fun bh=>sx 1 rfl trivial rfl rfl cA sz77 rfl rfl rfl nofun ?_
 refine sx 0 rfl trivial rfl rfl cA sz32 rfl rfl rfl nofun ?_
 refine as0 rfl rfl<|as0 rfl rfl<|.fin<|WP.seq<|rg 3 4<|lds 1 rfl trivial rfl sg77 rfl rfl<|fb rfl trivial rfl fa80_3<|sx 5 rfl trivial rfl rfl cA sz77 rfl rfl rfl nofun ?_
 refine .fin<|WP.seq<|dg Tryz.checked.mixed 8 48<|lds 5 rfl trivial rfl sg80 rfl rfl<|lds 0 rfl trivial rfl sg32 rfl rfl<|mv0 rfl rfl<|mv0 rfl rfl<|sx 3 rfl trivial rfl rfl cA sz80 rfl rfl rfl (fun _=>(pend_in (fun _=>trivial) (pend_in (fun _=>trivial) (pend_in (fun _=>(mem_at 0 rfl)) (pend_by (by kernel_rfl) pend_nil))))) ?_
 refine sx 2 rfl trivial rfl rfl cA sz32 rfl rfl rfl (fun _=>(pend_in (fun _=>trivial) (pend_in (fun _=>trivial) (pend_by (by kernel_rfl) (pend_by (by kernel_rfl) pend_nil))))) ?_
 refine as0 rfl rfl<|as0 rfl rfl<|.fin ?_
 cases H.out; exact rt i2 rfl () 6 [0,1,2,3,4,5] 6 (.cons (res_cells rfl underlying80 rfl c80 (mem_at 3 rfl) rfl) (.cons (res_cells rfl underlying32 rfl c32 (mem_at 2 rfl) rfl) (.cons (res_tmp rfl) (.cons (res_tmp rfl) .nil))))
theorem sender_Sender_Idle.c {v0_0 v0_1 v0_2 v0_3 v0_4:OV} {b0_ d0_0 d0_1:Nat} {e0_0:v0_0.1 = .pointer (some ⟨d0_0,0,none⟩)} {e0_1:v0_1.1 = .pointer (some ⟨d0_1,0,none⟩)} (h:sender_Sender_Idle.f a0=some r):Tr prog 31 [eq (.pointer (some ⟨b0_,0,none⟩))] [blk b0_ 40 [eq v0_0.1,vS a0.fself,vS a0.fto,eq v0_1.1,eq v0_2.1],blk d0_0 107 [vI a0.fQueue.fmost,eq v0_3.1,eq v0_4.1,vI a0.fQueue.flost],own EKey.K v0_3.1 a0.fQueue.fkeys,mp EKey.kv (fun x:Edu=>agg (Edu.enc x)) v0_4.1 a0.fQueue.fat,blk d0_1 173 [vI a0.fids.fn.fv,vI a0.fids.fmost],optO Fly.O v0_2 a0.fair] (γ:=Unit) (fun _=>True) (fun g=>vB r) (fun g=>[blk b0_ 40 [eq v0_0.1,vS a0.fself,vS a0.fto,eq v0_1.1,eq v0_2.1],blk d0_0 107 [vI a0.fQueue.fmost,eq v0_3.1,eq v0_4.1,vI a0.fQueue.flost],own EKey.K v0_3.1 a0.fQueue.fkeys,mp EKey.kv (fun x:Edu=>agg (Edu.enc x)) v0_4.1 a0.fQueue.fat,blk d0_1 173 [vI a0.fids.fn.fv,vI a0.fids.fmost],optO Fly.O v0_2 a0.fair]):=by
 unfold sender_Sender_Idle.f at h
 refine tb func31 ntmps31 h fun R0 F H=>?_
 refine WP.seq<|rg 1 0<|as0 rfl rfl<|.fin<|WP.seq<|rg 14 0<|mv0 rfl rfl<|Dv.nilp rfl trivial rfl<|fb rfl trivial rfl fa40_4<|ld 0 rfl trivial rfl sc38 rfl rfl<|Dv.oeq0 (fun _=>Fly.nn) rfl trivial rfl rfl underlying38 (mem_at 5 rfl)<|mv0 rfl rfl ?_
 rcases bem a0.fair.isNone with cc | cc
 ·
  have H:=H.cf cc
  refine Dv.gh (gh_sh 7 cc rfl) (fun _ _=>?_)
  refine Dv.gh (gh_sh 8 cc rfl) (fun _ _=>?_)
  refine sk rfl rfl<|sk rfl rfl<|sk rfl rfl<|sk rfl rfl<|sk rfl rfl<|sk rfl rfl<|pf0 rfl rfl rfl<|as0 rfl rfl<|.fin ?_
  cases H.out; exact rt i2 rfl () 6 [0,1,2,3,4,5] 0 (.cons (res_tmp rfl) .nil)
 have H:=H.ct cc
 refine Dv.gh (gh_sh 7 cc rfl) (fun _ _=>?_)
 refine Dv.gh (gh_sh 8 cc rfl) (fun _ _=>?_)
 refine mvg rfl rfl rfl<|Dv.nilp rfl (gg rfl) rfl<|fb rfl (gg rfl) rfl fa40_0<|ld 0 rfl (gg rfl) rfl sc36 rfl rfl<|el H fun ta haa H=>cll 6 [1,2,3,0,4,5] cal50 (Tr.weak (queue_Queue_Len.c haa (b0_:=d0_0) (v0_0:=v0_3) (v0_1:=v0_4)) (.cons (wk_ptr e0_0) .nil)) ?_
 refine bng rfl rfl rfl rfl run_eq<|pt0 rfl rfl rfl<|as0 rfl rfl<|.fin ?_
 cases H.out; exact rt i2 rfl () 6 [0,1,2,3,4,5] 0 (.cons (res_tmp rfl) .nil)
theorem sender_Sender_Tries.c {v0_0 v0_1 v0_2 v0_3 v0_4:OV} {b0_ d0_0 d0_1:Nat} {e0_0:v0_0.1 = .pointer (some ⟨d0_0,0,none⟩)} {e0_1:v0_1.1 = .pointer (some ⟨d0_1,0,none⟩)} (h:sender_Sender_Tries.f a0=some r):Tr prog 33 [eq (.pointer (some ⟨b0_,0,none⟩))] [blk b0_ 40 [eq v0_0.1,vS a0.fself,vS a0.fto,eq v0_1.1,eq v0_2.1],blk d0_0 107 [vI a0.fQueue.fmost,eq v0_3.1,eq v0_4.1,vI a0.fQueue.flost],own EKey.K v0_3.1 a0.fQueue.fkeys,mp EKey.kv (fun x:Edu=>agg (Edu.enc x)) v0_4.1 a0.fQueue.fat,blk d0_1 173 [vI a0.fids.fn.fv,vI a0.fids.fmost],optO Fly.O v0_2 a0.fair] (γ:=Unit) (fun _=>True) (fun g=>vI r) (fun g=>[blk b0_ 40 [eq v0_0.1,vS a0.fself,vS a0.fto,eq v0_1.1,eq v0_2.1],blk d0_0 107 [vI a0.fQueue.fmost,eq v0_3.1,eq v0_4.1,vI a0.fQueue.flost],own EKey.K v0_3.1 a0.fQueue.fkeys,mp EKey.kv (fun x:Edu=>agg (Edu.enc x)) v0_4.1 a0.fQueue.fat,blk d0_1 173 [vI a0.fids.fn.fv,vI a0.fids.fmost],optO Fly.O v0_2 a0.fair]):=by
 unfold sender_Sender_Tries.f at h
 refine tb func33 ntmps33 h fun R0 F H=>?_
 refine WP.seq<|rg 1 0<|as0 rfl rfl<|.fin<|WP.seq<|WP.seq<|rg 5 0<|mv0 rfl rfl<|Dv.nilp rfl trivial rfl<|fb rfl trivial rfl fa40_4<|ld 0 rfl trivial rfl sc38 rfl rfl<|Dv.oeq0 (fun _=>Fly.nn) rfl trivial rfl rfl underlying38 (mem_at 5 rfl)<|.fin<|cd H rfl (fun _ H=>?_) (fun cc H=>?_)
 ·
  refine WP.seq<|rg 1 0<|as0 rfl rfl<|.fin ?_
  cases H.out; exact rt i2 rfl () 6 [0,1,2,3,4,5] 0 (.cons (res_tmp rfl) .nil)
 refine wg (opt_some 5 rfl cc) fun _ _=>?_
 refine WP.skip<|WP.seq<|rg 8 0<|mv0 rfl rfl<|Dv.nilp rfl trivial rfl<|fb rfl trivial rfl fa40_4<|ld 1 rfl trivial rfl sc38 rfl rfl<|Dv.nilA Fly.nn rfl trivial rfl (mem_at 0 rfl)<|vg (Fly.opn 0 rfl) fun ga haa=>?_
 refine fp haa rfl trivial rfl fa111_1<|ld 0 rfl trivial rfl sc3 rfl rfl<|as0 rfl rfl<|.fin<|wg (Fly.shut (p:=v0_2) (m:=a0.fair.getD default) ga haa (pm 6 [0,1,2,3,4,5])) fun _ _=>?_
 refine wg (opt_back0 (O:=Fly.O) (o:=a0.fair) cc 0 rfl) fun _ _=>?_
 cases H.out; exact rt i2 rfl () 6 [1,2,3,4,5,0] 0 (.cons (res_tmp rfl) .nil)
theorem sender_Sender_Flight.c {v0_0 v0_1 v0_2 v0_3 v0_4:OV} {b0_ d0_0 d0_1:Nat} {e0_0:v0_0.1 = .pointer (some ⟨d0_0,0,none⟩)} {e0_1:v0_1.1 = .pointer (some ⟨d0_1,0,none⟩)} (h:sender_Sender_Flight.f a0=some r):Tr prog 72 [eq (.pointer (some ⟨b0_,0,none⟩))] [blk b0_ 40 [eq v0_0.1,vS a0.fself,vS a0.fto,eq v0_1.1,eq v0_2.1],blk d0_0 107 [vI a0.fQueue.fmost,eq v0_3.1,eq v0_4.1,vI a0.fQueue.flost],own EKey.K v0_3.1 a0.fQueue.fkeys,mp EKey.kv (fun x:Edu=>agg (Edu.enc x)) v0_4.1 a0.fQueue.fat,blk d0_1 173 [vI a0.fids.fn.fv,vI a0.fids.fmost],optO Fly.O v0_2 a0.fair] (γ:=Unit) (fun _=>True) (fun g=>tup [agg (Par.enc r.1),vB r.2]) (fun g=>[blk b0_ 40 [eq v0_0.1,vS a0.fself,vS a0.fto,eq v0_1.1,eq v0_2.1],blk d0_0 107 [vI a0.fQueue.fmost,eq v0_3.1,eq v0_4.1,vI a0.fQueue.flost],own EKey.K v0_3.1 a0.fQueue.fkeys,mp EKey.kv (fun x:Edu=>agg (Edu.enc x)) v0_4.1 a0.fQueue.fat,blk d0_1 173 [vI a0.fids.fn.fv,vI a0.fids.fmost],optO Fly.O v0_2 a0.fair]):=by
 unfold sender_Sender_Flight.f at h
 refine tb func72 ntmps72 h fun R0 F H=>?_
 refine WP.seq<|rg 2 1<|al rfl trivial zc46 nofun fun ba=>as0 rfl rfl<|.fin<|WP.seq<|WP.seq<|rg 5 0<|mv0 rfl rfl<|Dv.nilp rfl trivial rfl<|fb rfl trivial rfl fa40_4<|ld 1 rfl trivial rfl sc38 rfl rfl<|Dv.oeq0 (fun _=>Fly.nn) rfl trivial rfl rfl underlying38 (mem_at 6 rfl)<|.fin<|cd H rfl (fun _ H=>?_) (fun cc H=>?_)
 ·
  refine WP.seq<|rg 3 2<|Dv.bld (qs:=[vB false,vS (⟨#[]⟩:ByteArray),vS (⟨#[]⟩:ByteArray),vI 0,eq (.slice none 0 0)]) (css:=[]) rfl trivial underlying46 pl46 z46 rfl trivial rfl rfl<|sx 0 rfl trivial rfl rfl cA sz46 rfl rfl rfl nofun ?_
  refine as0 rfl rfl<|.fin ?_
  cases H.out; exact rt i2 rfl () 7 [0,1,2,3,4,5,6] 1 (.cons (res_wk (res_cells rfl underlying46 rfl c46 (mem_at 0 rfl) rfl) (wk_agg (.cons wk_id (.cons wk_id (.cons wk_id (.cons wk_id (.cons wk_nil .nil))))))) (.cons (res_tmp rfl) .nil))
 refine wg (opt_some 6 rfl cc) fun _ _=>?_
 refine WP.skip<|WP.seq<|rg 4 4<|mv0 rfl rfl<|vg (opt_back0 (O:=Fly.O) (o:=a0.fair) cc 0 rfl) fun _ _=>?_
 refine el H fun ta haa H=>cll 7 [2,3,4,5,6,0,1] cal47 (sender_Sender_told.c haa (b0_:=b0_) (v0_0:=v0_0) (v0_1:=v0_1) (v0_2:=v0_2) (v0_3:=v0_3) (v0_4:=v0_4) (d0_0:=d0_0) (e0_0:=e0_0) (d0_1:=d0_1) (e0_1:=e0_1)) ?_
 refine sx 1 rfl trivial rfl rfl cA sz46 rfl rfl rfl nofun ?_
 refine as0 rfl rfl<|.fin ?_
 cases H.out; exact rt i2 rfl () 7 [1,2,3,4,5,6,0] 1 (.cons (res_cells rfl underlying46 rfl c46 (mem_at 1 rfl) rfl) (.cons (res_tmp rfl) .nil))
theorem sender_Sender_Due.c {v0_0 v0_1 v0_2 v0_3 v0_4:OV} {b0_ d0_0 d0_1:Nat} {e0_0:v0_0.1 = .pointer (some ⟨d0_0,0,none⟩)} {e0_1:v0_1.1 = .pointer (some ⟨d0_1,0,none⟩)} (h:sender_Sender_Due.f a0=some r):Tr prog 73 [eq (.pointer (some ⟨b0_,0,none⟩))] [blk b0_ 40 [eq v0_0.1,vS a0.fself,vS a0.fto,eq v0_1.1,eq v0_2.1],blk d0_0 107 [vI a0.fQueue.fmost,eq v0_3.1,eq v0_4.1,vI a0.fQueue.flost],own EKey.K v0_3.1 a0.fQueue.fkeys,mp EKey.kv (fun x:Edu=>agg (Edu.enc x)) v0_4.1 a0.fQueue.fat,blk d0_1 173 [vI a0.fids.fn.fv,vI a0.fids.fmost],optO Fly.O v0_2 a0.fair] (γ:=Unit) (fun _=>True) (fun g=>tup [vI r.1,vB r.2]) (fun g=>[blk b0_ 40 [eq v0_0.1,vS a0.fself,vS a0.fto,eq v0_1.1,eq v0_2.1],blk d0_0 107 [vI a0.fQueue.fmost,eq v0_3.1,eq v0_4.1,vI a0.fQueue.flost],own EKey.K v0_3.1 a0.fQueue.fkeys,mp EKey.kv (fun x:Edu=>agg (Edu.enc x)) v0_4.1 a0.fQueue.fat,blk d0_1 173 [vI a0.fids.fn.fv,vI a0.fids.fmost],optO Fly.O v0_2 a0.fair]):=by
 unfold sender_Sender_Due.f at h
 refine tb func73 ntmps73 h fun R0 F H=>?_
 refine WP.seq<|rg 2 0<|as0 rfl rfl<|as0 rfl rfl<|.fin<|WP.seq<|WP.seq<|rg 5 0<|mv0 rfl rfl<|Dv.nilp rfl trivial rfl<|fb rfl trivial rfl fa40_4<|ld 0 rfl trivial rfl sc38 rfl rfl<|Dv.oeq0 (fun _=>Fly.nn) rfl trivial rfl rfl underlying38 (mem_at 5 rfl)<|.fin<|cd H rfl (fun _ H=>?_) (fun cc H=>?_)
 ·
  refine WP.seq<|rg 2 0<|as0 rfl rfl<|as0 rfl rfl<|.fin ?_
  cases H.out; exact rt i2 rfl () 6 [0,1,2,3,4,5] 0 (.cons (res_tmp rfl) (.cons (res_tmp rfl) .nil))
 refine wg (opt_some 5 rfl cc) fun _ _=>?_
 refine WP.skip<|WP.seq<|rg 9 0<|mv0 rfl rfl<|Dv.nilp rfl trivial rfl<|fb rfl trivial rfl fa40_4<|ld 1 rfl trivial rfl sc38 rfl rfl<|Dv.nilA Fly.nn rfl trivial rfl (mem_at 0 rfl)<|vg (Fly.opn 0 rfl) fun ga haa=>?_
 refine fp haa rfl trivial rfl fa111_2<|ld 0 rfl trivial rfl sc3 rfl rfl<|as0 rfl rfl<|as0 rfl rfl<|.fin<|wg (Fly.shut (p:=v0_2) (m:=a0.fair.getD default) ga haa (pm 6 [0,1,2,3,4,5])) fun _ _=>?_
 refine wg (opt_back0 (O:=Fly.O) (o:=a0.fair) cc 0 rfl) fun _ _=>?_
 cases H.out; exact rt i2 rfl () 6 [1,2,3,4,5,0] 0 (.cons (res_tmp rfl) (.cons (res_tmp rfl) .nil))
theorem queue_Queue_Lost.c {v0_0 v0_1:OV} {b0_:Nat} (h:queue_Queue_Lost.f a0=some r):Tr prog 74 [eq (.pointer (some ⟨b0_,0,none⟩))] [blk b0_ 107 [vI a0.fmost,eq v0_0.1,eq v0_1.1,vI a0.flost],own EKey.K v0_0.1 a0.fkeys,mp EKey.kv (fun x:Edu=>agg (Edu.enc x)) v0_1.1 a0.fat] (γ:=Unit) (fun _=>True) (fun g=>vI r) (fun g=>[blk b0_ 107 [vI a0.fmost,eq v0_0.1,eq v0_1.1,vI a0.flost],own EKey.K v0_0.1 a0.fkeys,mp EKey.kv (fun x:Edu=>agg (Edu.enc x)) v0_1.1 a0.fat]):=by
 unfold queue_Queue_Lost.f at h
 refine tb func74 ntmps74 h fun R0 F H=>?_
 refine WP.seq<|rg 1 0<|as0 rfl rfl<|.fin<|WP.seq<|rg 5 0<|mv0 rfl rfl<|Dv.nilp rfl trivial rfl<|fb rfl trivial rfl fa107_3<|ld 0 rfl trivial rfl sc3 rfl rfl<|as0 rfl rfl<|.fin ?_
 cases H.out; exact rt i2 rfl () 3 [0,1,2] 0 (.cons (res_tmp rfl) .nil)
theorem r18_Idle.c (h:r18_Idle.f a0=some r):Pt prog 75 [agg (RSnd.enc a0)] (vB r):=by
 unfold r18_Idle.f at h
 refine pb func75 ntmps75 h fun R0 F H=>?_
 refine WP.seq<|rg 2 1<|Dv.box rfl trivial rfl cA nofun fun ba=>as0 rfl rfl<|.fin<|WP.seq<|rg 11 0<|fb rfl trivial rfl fa80_5<|ld 0 rfl trivial rfl sc4 rfl rfl<|un0 rfl rfl (run_not _)<|mv0 rfl rfl ?_
 rcases bem (!a0.fOn) with cc | cc
 ·
  have H:=H.cf cc
  refine Dv.gh (gh_sh 5 cc rfl) (fun _ _=>?_)
  refine Dv.gh (gh_sh 6 cc rfl) (fun _ _=>?_)
  refine sk rfl rfl<|sk rfl rfl<|sk rfl rfl<|sk rfl rfl<|sk rfl rfl<|pf0 rfl rfl rfl<|as0 rfl rfl<|.fin ?_
  cases H.out; exact r1 i2 rfl (.cons (res_tmp rfl) .nil)
 have H:=H.ct cc
 refine Dv.gh (gh_sh 5 cc rfl) (fun _ _=>?_)
 refine Dv.gh (gh_sh 6 cc rfl) (fun _ _=>?_)
 refine fb rfl (gg rfl) rfl fa80_3<|fb rfl (gg rfl) rfl fa77_1<|ld 0 rfl (gg rfl) rfl sc23 rfl rfl<|Dv.lenl rfl (gg rfl) rfl underlying23<|bng rfl rfl rfl rfl run_eq<|pt0 rfl rfl rfl<|as0 rfl rfl<|.fin ?_
 cases H.out; exact r1 i2 rfl (.cons (res_tmp rfl) .nil)
theorem w18_like.c {v0_0 v0_1 v0_2 v0_3 v0_4:OV} {b0_ d0_0 d0_1:Nat} {e0_0:v0_0.1 = .pointer (some ⟨d0_0,0,none⟩)} {e0_1:v0_1.1 = .pointer (some ⟨d0_1,0,none⟩)} (h:w18_like.f k a0 a1=some r):Tr prog 40 [eq (.pointer (some ⟨b0_,0,none⟩)),agg (RSnd.enc a1)] [blk b0_ 40 [eq v0_0.1,vS a0.fself,vS a0.fto,eq v0_1.1,eq v0_2.1],blk d0_0 107 [vI a0.fQueue.fmost,eq v0_3.1,eq v0_4.1,vI a0.fQueue.flost],own EKey.K v0_3.1 a0.fQueue.fkeys,mp EKey.kv (fun x:Edu=>agg (Edu.enc x)) v0_4.1 a0.fQueue.fat,blk d0_1 173 [vI a0.fids.fn.fv,vI a0.fids.fmost],optO Fly.O v0_2 a0.fair] (γ:=Unit) (fun _=>True) (fun g=>vB r) (fun g=>[blk b0_ 40 [eq v0_0.1,vS a0.fself,vS a0.fto,eq v0_1.1,eq v0_2.1],blk d0_0 107 [vI a0.fQueue.fmost,eq v0_3.1,eq v0_4.1,vI a0.fQueue.flost],own EKey.K v0_3.1 a0.fQueue.fkeys,mp EKey.kv (fun x:Edu=>agg (Edu.enc x)) v0_4.1 a0.fQueue.fat,blk d0_1 173 [vI a0.fids.fn.fv,vI a0.fids.fmost],optO Fly.O v0_2 a0.fair]):=by
 unfold w18_like.f at h
 refine tb func40 ntmps40 h fun R0 F H=>?_
 refine WP.seq<|rg 2 1<|Dv.box rfl trivial rfl cA nofun fun ba=>as0 rfl rfl<|.fin<|WP.seq<|rg 8 96<|mv0 rfl rfl<|el H fun ta haa H=>cll 7 [1,2,3,4,5,6,0] cal72 (sender_Sender_Flight.c haa (b0_:=b0_) (v0_0:=v0_0) (v0_1:=v0_1) (v0_2:=v0_2) (v0_3:=v0_3) (v0_4:=v0_4) (d0_0:=d0_0) (e0_0:=e0_0) (d0_1:=d0_1) (e0_1:=e0_1)) ?_
 refine mv0 rfl rfl<|ex0 rfl trivial rfl rfl<|ex0 rfl trivial rfl rfl<|al rfl trivial zc46 nofun fun bc=>sx 0 rfl trivial rfl rfl cA sz46 rfl rfl rfl nofun ?_
 refine as0 rfl rfl<|.fin<|WP.seq<|rg 7 0<|mv0 rfl rfl<|el H fun tc hac H=>cll 8 [2,3,4,5,6,7,0,1] cal73 (sender_Sender_Due.c hac (b0_:=b0_) (v0_0:=v0_0) (v0_1:=v0_1) (v0_2:=v0_2) (v0_3:=v0_3) (v0_4:=v0_4) (d0_0:=d0_0) (e0_0:=e0_0) (d0_1:=d0_1) (e0_1:=e0_1)) ?_
 refine mv0 rfl rfl<|ex0 rfl trivial rfl rfl<|ex0 rfl trivial rfl rfl<|as0 rfl rfl<|as0 rfl rfl<|.fin<|WP.seq<|dg Tryz.checked.mixed 59 0<|mv0 rfl rfl<|fb rfl trivial rfl fa80_5<|ld 1 rfl trivial rfl sc4 rfl rfl<|bn0 rfl rfl rfl (run_beq underlying4)<|mv0 rfl rfl ?_
 cases cc:(ta.2==a1.fOn)
 ·
  have H:=H.cf cc
  refine sk rfl rfl<|sk rfl rfl<|sk rfl rfl<|sk rfl rfl<|pf0 rfl rfl rfl<|mv0 rfl rfl<|sk rfl rfl<|sk rfl rfl<|sk rfl rfl<|sk rfl rfl<|pf0 rfl rfl rfl<|mv0 rfl rfl<|sk rfl rfl<|sk rfl rfl<|sk rfl rfl<|sk rfl rfl<|pf0 rfl rfl rfl<|mv0 rfl rfl<|sk rfl rfl<|sk rfl rfl<|sk rfl rfl<|sk rfl rfl<|sk rfl rfl<|pf0 rfl rfl rfl<|mv0 rfl rfl<|sk rfl rfl<|sk rfl rfl<|sk rfl rfl<|sk rfl rfl<|sk rfl rfl<|sk rfl rfl<|sk rfl rfl<|sk rfl rfl<|sk rfl rfl<|pf0 rfl rfl rfl<|mv0 rfl rfl<|sk rfl rfl<|sk rfl rfl<|sk rfl rfl<|sk rfl rfl<|sk rfl rfl<|sk rfl rfl<|sk rfl rfl<|sk rfl rfl<|sk rfl rfl<|pf0 rfl rfl rfl<|mv0 rfl rfl<|sk rfl rfl<|sk rfl rfl<|sk rfl rfl<|sk rfl rfl<|sk rfl rfl<|pf0 rfl rfl rfl<|as0 rfl rfl<|.fin ?_
  cases H.out; exact rt i2 rfl () 8 [0,1,2,3,4,5,6,7] 2 (.cons (res_tmp rfl) .nil)
 have H:=H.ct cc
 refine mvg rfl rfl rfl<|fb rfl (gg rfl) rfl fa80_5<|ld 1 rfl (gg rfl) rfl sc4 rfl rfl<|bng rfl rfl rfl rfl (run_beq underlying4)<|pt0 rfl rfl rfl<|mv0 rfl rfl ?_
 cases ce:(tc.2==a1.fOn)
 ·
  have H:=H.cf ce
  refine sk rfl rfl<|sk rfl rfl<|sk rfl rfl<|sk rfl rfl<|pf0 rfl rfl rfl<|mv0 rfl rfl<|sk rfl rfl<|sk rfl rfl<|sk rfl rfl<|sk rfl rfl<|pf0 rfl rfl rfl<|mv0 rfl rfl<|sk rfl rfl<|sk rfl rfl<|sk rfl rfl<|sk rfl rfl<|sk rfl rfl<|pf0 rfl rfl rfl<|mv0 rfl rfl<|sk rfl rfl<|sk rfl rfl<|sk rfl rfl<|sk rfl rfl<|sk rfl rfl<|sk rfl rfl<|sk rfl rfl<|sk rfl rfl<|sk rfl rfl<|pf0 rfl rfl rfl<|mv0 rfl rfl<|sk rfl rfl<|sk rfl rfl<|sk rfl rfl<|sk rfl rfl<|sk rfl rfl<|sk rfl rfl<|sk rfl rfl<|sk rfl rfl<|sk rfl rfl<|pf0 rfl rfl rfl<|mv0 rfl rfl<|sk rfl rfl<|sk rfl rfl<|sk rfl rfl<|sk rfl rfl<|sk rfl rfl<|pf0 rfl rfl rfl<|as0 rfl rfl<|.fin ?_
  cases H.out; exact rt i2 rfl () 8 [0,1,2,3,4,5,6,7] 2 (.cons (res_tmp rfl) .nil)
 have H:=H.ct ce
 refine lds 0 rfl (gg rfl) rfl sg46 rfl rfl<|fb rfl (gg rfl) rfl fa80_4<|lds 1 rfl (gg rfl) rfl sg78 rfl rfl<|el H fun te had H=>Dv.call rfl (gg rfl) cal36 rfl (r04_Same.c had)<|pt0 rfl rfl rfl<|mv0 rfl rfl ?_
 cases cg:te
 ·
  have H:=H.cf cg
  refine sk rfl rfl<|sk rfl rfl<|sk rfl rfl<|sk rfl rfl<|pf0 rfl rfl rfl<|mv0 rfl rfl<|sk rfl rfl<|sk rfl rfl<|sk rfl rfl<|sk rfl rfl<|sk rfl rfl<|pf0 rfl rfl rfl<|mv0 rfl rfl<|sk rfl rfl<|sk rfl rfl<|sk rfl rfl<|sk rfl rfl<|sk rfl rfl<|sk rfl rfl<|sk rfl rfl<|sk rfl rfl<|sk rfl rfl<|pf0 rfl rfl rfl<|mv0 rfl rfl<|sk rfl rfl<|sk rfl rfl<|sk rfl rfl<|sk rfl rfl<|sk rfl rfl<|sk rfl rfl<|sk rfl rfl<|sk rfl rfl<|sk rfl rfl<|pf0 rfl rfl rfl<|mv0 rfl rfl<|sk rfl rfl<|sk rfl rfl<|sk rfl rfl<|sk rfl rfl<|sk rfl rfl<|pf0 rfl rfl rfl<|as0 rfl rfl<|.fin ?_
  cases H.out; exact rt i2 rfl () 8 [0,1,2,3,4,5,6,7] 2 (.cons (res_tmp rfl) .nil)
 have H:=H.ct cg
 refine mvg rfl rfl rfl<|fb rfl (gg rfl) rfl fa80_7<|ld 1 rfl (gg rfl) rfl sc3 rfl rfl<|bng rfl rfl rfl rfl run_eq<|pt0 rfl rfl rfl<|mv0 rfl rfl ?_
 cases ci:(tc.1==a1.fDue)
 ·
  have H:=H.cf ci
  refine sk rfl rfl<|sk rfl rfl<|sk rfl rfl<|sk rfl rfl<|sk rfl rfl<|pf0 rfl rfl rfl<|mv0 rfl rfl<|sk rfl rfl<|sk rfl rfl<|sk rfl rfl<|sk rfl rfl<|sk rfl rfl<|sk rfl rfl<|sk rfl rfl<|sk rfl rfl<|sk rfl rfl<|pf0 rfl rfl rfl<|mv0 rfl rfl<|sk rfl rfl<|sk rfl rfl<|sk rfl rfl<|sk rfl rfl<|sk rfl rfl<|sk rfl rfl<|sk rfl rfl<|sk rfl rfl<|sk rfl rfl<|pf0 rfl rfl rfl<|mv0 rfl rfl<|sk rfl rfl<|sk rfl rfl<|sk rfl rfl<|sk rfl rfl<|sk rfl rfl<|pf0 rfl rfl rfl<|as0 rfl rfl<|.fin ?_
  cases H.out; exact rt i2 rfl () 8 [0,1,2,3,4,5,6,7] 2 (.cons (res_tmp rfl) .nil)
 have H:=H.ct ci
 refine mvg rfl rfl rfl<|el H fun tf hae H=>cll 8 [2,3,4,5,6,7,0,1] cal33 (sender_Sender_Tries.c hae (b0_:=b0_) (v0_0:=v0_0) (v0_1:=v0_1) (v0_2:=v0_2) (v0_3:=v0_3) (v0_4:=v0_4) (d0_0:=d0_0) (e0_0:=e0_0) (d0_1:=d0_1) (e0_1:=e0_1)) ?_
 refine fb rfl (gg rfl) rfl fa80_6<|ld 1 rfl (gg rfl) rfl sc3 rfl rfl<|bng rfl rfl rfl rfl run_eq<|pt0 rfl rfl rfl<|mv0 rfl rfl ?_
 cases cj:(tf==a1.fTries)
 ·
  have H:=H.cf cj
  refine sk rfl rfl<|sk rfl rfl<|sk rfl rfl<|sk rfl rfl<|sk rfl rfl<|sk rfl rfl<|sk rfl rfl<|sk rfl rfl<|sk rfl rfl<|pf0 rfl rfl rfl<|mv0 rfl rfl<|sk rfl rfl<|sk rfl rfl<|sk rfl rfl<|sk rfl rfl<|sk rfl rfl<|sk rfl rfl<|sk rfl rfl<|sk rfl rfl<|sk rfl rfl<|pf0 rfl rfl rfl<|mv0 rfl rfl<|sk rfl rfl<|sk rfl rfl<|sk rfl rfl<|sk rfl rfl<|sk rfl rfl<|pf0 rfl rfl rfl<|as0 rfl rfl<|.fin ?_
  cases H.out; exact rt i2 rfl () 8 [0,1,2,3,4,5,6,7] 2 (.cons (res_tmp rfl) .nil)
 have H:=H.ct cj
 refine mvg rfl rfl rfl<|Dv.nilp rfl (gg rfl) rfl<|fb rfl (gg rfl) rfl fa40_0<|ld 2 rfl (gg rfl) rfl sc36 rfl rfl<|el H fun tg haf H=>cll 8 [3,4,5,0,1,2,6,7] cal18 (Tr.weak (queue_Queue_All.c haf (b0_:=d0_0) (v0_0:=v0_3) (v0_1:=v0_4)) (.cons (wk_ptr e0_0) .nil)) ?_
 refine fb rfl (gg rfl) rfl fa80_3<|fb rfl (gg rfl) rfl fa77_1<|ld 1 rfl (gg rfl) rfl sc23 rfl rfl<|el H fun tj hag H=>Dv.call rfl (gg rfl) cal16 rfl (r04_SameEdus.c hag)<|pt0 rfl rfl rfl<|mv0 rfl rfl ?_
 cases ck:tj
 ·
  have H:=H.cf ck
  refine sk rfl rfl<|sk rfl rfl<|sk rfl rfl<|sk rfl rfl<|sk rfl rfl<|sk rfl rfl<|sk rfl rfl<|sk rfl rfl<|sk rfl rfl<|pf0 rfl rfl rfl<|mv0 rfl rfl<|sk rfl rfl<|sk rfl rfl<|sk rfl rfl<|sk rfl rfl<|sk rfl rfl<|pf0 rfl rfl rfl<|as0 rfl rfl<|.fin ?_
  cases H.out; exact rt i2 rfl () 8 [0,1,2,3,4,5,6,7] 2 (.cons (res_tmp rfl) .nil)
 have H:=H.ct ck
 refine mvg rfl rfl rfl<|Dv.nilp rfl (gg rfl) rfl<|fb rfl (gg rfl) rfl fa40_0<|ld 2 rfl (gg rfl) rfl sc36 rfl rfl<|el H fun tm hah H=>cll 8 [3,4,5,0,1,2,6,7] cal74 (Tr.weak (queue_Queue_Lost.c hah (b0_:=d0_0) (v0_0:=v0_3) (v0_1:=v0_4)) (.cons (wk_ptr e0_0) .nil)) ?_
 refine fb rfl (gg rfl) rfl fa80_3<|fb rfl (gg rfl) rfl fa77_2<|ld 1 rfl (gg rfl) rfl sc3 rfl rfl<|bng rfl rfl rfl rfl run_eq<|pt0 rfl rfl rfl<|mv0 rfl rfl ?_
 cases cn:(tm==a1.fQ.fLost)
 ·
  have H:=H.cf cn
  refine sk rfl rfl<|sk rfl rfl<|sk rfl rfl<|sk rfl rfl<|sk rfl rfl<|pf0 rfl rfl rfl<|as0 rfl rfl<|.fin ?_
  cases H.out; exact rt i2 rfl () 8 [0,1,2,3,4,5,6,7] 2 (.cons (res_tmp rfl) .nil)
 have H:=H.ct cn
 refine mvg rfl rfl rfl<|el H fun tn hai H=>cll 8 [2,3,4,5,6,7,0,1] cal31 (sender_Sender_Idle.c hai (b0_:=b0_) (v0_0:=v0_0) (v0_1:=v0_1) (v0_2:=v0_2) (v0_3:=v0_3) (v0_4:=v0_4) (d0_0:=d0_0) (e0_0:=e0_0) (d0_1:=d0_1) (e0_1:=e0_1)) ?_
 refine lds 1 rfl (gg rfl) rfl sg80 rfl rfl<|el H fun tp haj H=>Dv.call rfl (gg rfl) cal75 rfl (r18_Idle.c haj)<|bng rfl rfl rfl rfl (run_beq underlying4)<|pt0 rfl rfl rfl<|as0 rfl rfl<|.fin ?_
 cases H.out; exact rt i2 rfl () 8 [0,1,2,3,4,5,6,7] 2 (.cons (res_tmp rfl) .nil)
end Go.Proofs.YtmmaijneehmbgaaGreat
