import Derived.Test.YtmmaijneehmbgaaGreatZWalks3
import Derived.Test.YtmmaijneehmbgaaGreatConQ
import Derived.Test.YtmmaijneehmbgaaGreatConA6
import Derived.Eval
set_option linter.all false
set_option autoImplicit true
set_option maxRecDepth 10000
set_option maxHeartbeats 20000000
namespace Go.Proofs.YtmmaijneehmbgaaGreat
open Go Go.Sp Tryz
theorem w18_SenderPlays.c (h:w18_SenderPlays.f k a0 a1 a2 a3=some r):Pt prog 8 [vI a0,sl GMade.K a1,sl GMade.K a2,sl SStep.K a3] (vB r):=by
 unfold w18_SenderPlays.f at h
 refine pb func8 ntmps8 h fun R0 F H=>?_
 refine WP.seq<|rg 1 0<|as0 rfl rfl<|.fin<|WP.seq<|rg 4 0<|mv0 rfl rfl<|el H fun ta haa H=>cl rfl cal12 rfl (r01_Around.c haa)<|bn0 rfl rfl rfl run_add<|as0 rfl rfl<|.fin<|WP.seq<|rg 3 2<|mv0 rfl rfl<|el H fun tc hac H=>cx 0 [] cal9 (w18_begin.c hac) nofun fun ga _=>?_
 refine as0 rfl rfl<|.fin<|WP.seq<|rg 2 1<|el H fun te had H=>cx 1 [0] cal10 (view_New.c had) nofun fun gb _=>?_
 refine as0 rfl rfl<|.fin<|WP.seq<|WP.seq<|rg 6 0<|mv0 rfl rfl<|Dv.oeq0 (fun _=>SSnd.nn) rfl trivial rfl rfl underlying24 (mem_at 1 rfl)<|mv0 rfl rfl ?_
 rcases bem tc.isNone with cc | cc
 rotate_left
 ·
  have H:=H.ct cc
  refine Dv.gh (gh_sh 46 cc rfl) (fun _ _=>?_)
  refine Dv.gh (gh_sh 47 cc rfl) (fun _ _=>?_)
  refine sk rfl rfl<|sk rfl rfl<|pt0 rfl rfl rfl<|.fin<|WP.cond rfl (fun _=>?_) nofun
  refine WP.seq<|rg 1 0<|as0 rfl rfl<|.fin ?_
  cases H.out; exact r2 i2 rfl (.cons (res_tmp rfl) .nil)
 have H:=H.cf cc
 refine Dv.gh (gh_sh 46 cc rfl) (fun _ _=>?_)
 refine Dv.gh (gh_sh 47 cc rfl) (fun _ _=>?_)
 refine mvg rfl rfl rfl<|Dv.peq0 VView.nn rfl (gg rfl) rfl rfl underlying26 (mem_at 0 rfl)<|pf0 rfl rfl rfl<|.fin<|WP.cond rfl nofun (fun _=>?_)
 refine WP.skip<|WP.seq<|wg (opt_some 1 rfl cc) fun _ _=>?_
 refine rg 4 12<|mv0 rfl rfl<|el H fun tf hae H=>cl rfl cal34 rfl (r18_New.c hae)<|al rfl trivial zc80 nofun fun ba=>sx 0 rfl trivial rfl rfl cA sz80 rfl rfl rfl nofun ?_
 refine .fin<|WP.seq<|rg 4 4<|mv0 rfl rfl<|mv0 rfl rfl<|el H fun tg haf H=>cx 3 [0,1,2] cal11 (r10_Made.c haf) nofun fun gi _=>?_
 refine as0 rfl rfl<|.fin<|WP.seq<|rg 1 1<|al rfl trivial zc44 nofun fun bc=>.fin<|WP.seq<|rg 1 0<|as0 rfl rfl<|.fin<|WP.seq<|rg 1 0<|as0 rfl rfl<|.fin<|WP.seqr H id (fun pa:Int×Int×Int×Bool×(List RDag)×RSnd×SSnd×VView=>[(0,vI a0),(1,sl GMade.K a1),(2,sl GMade.K a2),(3,sl SStep.K a3),(8,vB false),(9,vI (w64 (1+ta))),(10,eq ga.1),(11,eq gb.1),(12,eq (.pointer (some ⟨ba,0,none⟩))),(13,eq gi.1),(14,eq (.pointer (some ⟨bc,0,none⟩))),(15,vI pa.1),(16,vI pa.2.1),(17,vI pa.2.2.1),(50,vB false),(63,vB pa.2.2.2.1)]) (fun pa:Int×Int×Int×Bool×(List RDag)×RSnd×SSnd×VView=>[blk bc 44 [sl RDag.K pa.2.2.2.2.1],blk ba 80 [vS pa.2.2.2.2.2.1.fSelf,vS pa.2.2.2.2.2.1.fTo,vI pa.2.2.2.2.2.1.fN,vI pa.2.2.2.2.2.1.fQ.fMost,sl Edu.K pa.2.2.2.2.2.1.fQ.fL,vI pa.2.2.2.2.2.1.fQ.fLost,vB pa.2.2.2.2.2.1.fFly.fAck,vS pa.2.2.2.2.2.1.fFly.fFrom,vS pa.2.2.2.2.2.1.fFly.fTo,vI pa.2.2.2.2.2.1.fFly.fID,sl Edu.K pa.2.2.2.2.2.1.fFly.fEdus,vB pa.2.2.2.2.2.1.fOn,vI pa.2.2.2.2.2.1.fTries,vI pa.2.2.2.2.2.1.fDue],own Event.K gi.1 tg,SSnd.O ga pa.2.2.2.2.2.2.1,VView.O gb pa.2.2.2.2.2.2.2]++F) (fun pa H=>?_) (fun H=>?_)
 ·
  refine WP.seq<|rg 2 0<|el H fun tj hag H=>cl rfl cal21 rfl (w18_lives.c hag)<|as0 rfl rfl<|.fin ?_
  cases H.out; exact r5 i2 rfl (.cons (res_tmp rfl) .nil)
 refine WP.seq<|rg 1 0<|as0 rfl rfl<|.fin<|WP.block<|WP.gh (gh_wk (E':=[(0,vI a0),(1,sl GMade.K a1),(2,sl GMade.K a2),(3,sl SStep.K a3),(8,vB false),(9,vI (w64 (1+ta))),(10,eq ga.1),(11,eq gb.1),(12,eq (.pointer (some ⟨ba,0,none⟩))),(13,eq gi.1),(14,eq (.pointer (some ⟨bc,0,none⟩))),(15,vI 0),(16,vI 0),(17,vI 0),(50,vB false)]) (l':=[blk bc 44 [sl RDag.K ([]:List RDag)],own Event.K gi.1 tg,blk ba 80 [vS tf.fSelf,vS tf.fTo,vI tf.fN,vI tf.fQ.fMost,sl Edu.K tf.fQ.fL,vI tf.fQ.fLost,vB tf.fFly.fAck,vS tf.fFly.fFrom,vS tf.fFly.fTo,vI tf.fFly.fID,sl Edu.K tf.fFly.fEdus,vB tf.fOn,vI tf.fTries,vI tf.fDue],SSnd.O ga (tc.getD default),VView.O gb te]++F) (wke_cons rfl wk_id (wke_cons rfl wk_id (wke_cons rfl wk_id (wke_cons rfl wk_id (wke_cons rfl wk_id (wke_cons rfl wk_id (wke_cons rfl wk_id (wke_cons rfl wk_id (wke_cons rfl wk_id (wke_cons rfl wk_id (wke_cons rfl wk_id (wke_cons rfl wk_id (wke_cons rfl wk_id (wke_cons rfl wk_id (wke_cons rfl wk_id wke_nil))))))))))))))) (all2_app (.cons (wka_blk (.cons wk_nil .nil)) (.cons wka_id (.cons wka_id (.cons wka_id (.cons wka_id .nil))))) fun _=>wka_id)) (fun _ _=>?_)
 refine wg (sg 5 [0,2,1,3,4] 0) fun _ _=>?_
 refine lp (fun j_ (pc:Int×Int×Int×(List RDag)×RSnd×SSnd×VView)=>w18_SenderPlays.l0 k a3 tg j_ pc.1 pc.2.1 pc.2.2.1 pc.2.2.2.1 pc.2.2.2.2.1 pc.2.2.2.2.2.1 pc.2.2.2.2.2.2) (0,0,0,([]:List RDag),(⟨tf.fSelf,tf.fTo,tf.fN,tf.fQ,tf.fFly,tf.fOn,tf.fTries,tf.fDue⟩:RSnd),tc.getD default,te) H (fun pc=>[(0,vI a0),(1,sl GMade.K a1),(2,sl GMade.K a2),(3,sl SStep.K a3),(8,vB false),(9,vI (w64 (1+ta))),(10,eq ga.1),(11,eq gb.1),(12,eq (.pointer (some ⟨ba,0,none⟩))),(13,eq gi.1),(14,eq (.pointer (some ⟨bc,0,none⟩))),(15,vI pc.1),(16,vI pc.2.1),(17,vI pc.2.2.1),(50,vB false)]) (fun pc=>[blk bc 44 [sl RDag.K pc.2.2.2.1],blk ba 80 [vS pc.2.2.2.2.1.fSelf,vS pc.2.2.2.2.1.fTo,vI pc.2.2.2.2.1.fN,vI pc.2.2.2.2.1.fQ.fMost,sl Edu.K pc.2.2.2.2.1.fQ.fL,vI pc.2.2.2.2.1.fQ.fLost,vB pc.2.2.2.2.1.fFly.fAck,vS pc.2.2.2.2.1.fFly.fFrom,vS pc.2.2.2.2.1.fFly.fTo,vI pc.2.2.2.2.1.fFly.fID,sl Edu.K pc.2.2.2.2.1.fFly.fEdus,vB pc.2.2.2.2.1.fOn,vI pc.2.2.2.2.1.fTries,vI pc.2.2.2.2.1.fDue],own Event.K gi.1 tg,SSnd.O ga pc.2.2.2.2.2.1,VView.O gb pc.2.2.2.2.2.2]++F) ?_
 rintro j_ ⟨xa,xb,xc,xd,xe,xf,xg⟩ H
 rcases j_ with _ | ja
 ·
  exact (Gets.no H).elim
 try dsimp only at H
 rw [w18_SenderPlays.l0] at H
 refine WP.seq<|WP.seq<|rg 8 0<|mv0 rfl rfl<|mv0 rfl rfl<|Dv.lenl rfl trivial rfl underlying75<|bn0 rfl rfl rfl run_lt<|mv0 rfl rfl ?_
 rcases bem (decide (xc<(a3.length:Int))) with ce | ce
 ·
  have H:=H.cf ce
  refine Dv.gh (gh_sh 59 ce rfl) (fun _ _=>?_)
  refine Dv.gh (gh_sh 60 ce rfl) (fun _ _=>?_)
  refine sk rfl rfl<|sk rfl rfl<|pf0 rfl rfl rfl<|.fin<|WP.cond rfl nofun (fun _=>?_)
  refine WP.exit ?_
  have H:=H.out
  exact jn (xa,xb,xc,false,xd,(⟨xe.fSelf,xe.fTo,xe.fN,xe.fQ,xe.fFly,xe.fOn,xe.fTries,xe.fDue⟩:RSnd),xf,xg) H
 have H:=H.ct ce
 refine Dv.gh (gh_sh 59 ce rfl) (fun _ _=>?_)
 refine Dv.gh (gh_sh 60 ce rfl) (fun _ _=>?_)
 refine mvg rfl rfl rfl<|bng rfl rfl rfl rfl run_lt<|pt0 rfl rfl rfl<|.fin<|cd H rfl (fun _ H=>?_) (fun _ H=>?_)
 rotate_left
 ·
  refine WP.exit ?_
  have H:=H.out
  exact jn (xa,xb,xc,decide (xc<20),xd,(⟨xe.fSelf,xe.fTo,xe.fN,xe.fQ,xe.fFly,xe.fOn,xe.fTries,xe.fDue⟩:RSnd),xf,xg) H
 refine WP.skip<|WP.seqr H id (fun pd:Int×Int×Int×Bool×Bool×(List RDag)×RSnd×SSnd×VView=>[(0,vI a0),(1,sl GMade.K a1),(2,sl GMade.K a2),(3,sl SStep.K a3),(8,vB false),(9,vI (w64 (1+ta))),(10,eq ga.1),(11,eq gb.1),(12,eq (.pointer (some ⟨ba,0,none⟩))),(13,eq gi.1),(14,eq (.pointer (some ⟨bc,0,none⟩))),(15,vI pd.1),(16,vI pd.2.1),(17,vI xc),(50,vB false),(63,vB (decide (xc<20))),(79,vI pd.2.2.1),(118,vB pd.2.2.2.1),(217,vB pd.2.2.2.2.1)]) (fun pd:Int×Int×Int×Bool×Bool×(List RDag)×RSnd×SSnd×VView=>[blk bc 44 [sl RDag.K pd.2.2.2.2.2.1],blk ba 80 [vS pd.2.2.2.2.2.2.1.fSelf,vS pd.2.2.2.2.2.2.1.fTo,vI pd.2.2.2.2.2.2.1.fN,vI pd.2.2.2.2.2.2.1.fQ.fMost,sl Edu.K pd.2.2.2.2.2.2.1.fQ.fL,vI pd.2.2.2.2.2.2.1.fQ.fLost,vB pd.2.2.2.2.2.2.1.fFly.fAck,vS pd.2.2.2.2.2.2.1.fFly.fFrom,vS pd.2.2.2.2.2.2.1.fFly.fTo,vI pd.2.2.2.2.2.2.1.fFly.fID,sl Edu.K pd.2.2.2.2.2.2.1.fFly.fEdus,vB pd.2.2.2.2.2.2.1.fOn,vI pd.2.2.2.2.2.2.1.fTries,vI pd.2.2.2.2.2.2.1.fDue],SSnd.O ga pd.2.2.2.2.2.2.2.1,VView.O gb pd.2.2.2.2.2.2.2.2,own Event.K gi.1 tg]++F) (fun pd H=>?_) (fun H=>?_)
 ·
  refine rg 3 0<|mv0 rfl rfl<|bn0 rfl rfl rfl run_add<|as0 rfl rfl<|.fin<|ng (sg 5 [0,1,4,2,3] 0) fun _ _=>?_
  exact bk ja (pd.1,pd.2.1,w64 (xc+1),pd.2.2.2.2.2.1,(⟨pd.2.2.2.2.2.2.1.fSelf,pd.2.2.2.2.2.2.1.fTo,pd.2.2.2.2.2.2.1.fN,pd.2.2.2.2.2.2.1.fQ,pd.2.2.2.2.2.2.1.fFly,pd.2.2.2.2.2.2.1.fOn,pd.2.2.2.2.2.2.1.fTries,pd.2.2.2.2.2.2.1.fDue⟩:RSnd),pd.2.2.2.2.2.2.2.1,pd.2.2.2.2.2.2.2.2) H
 refine WP.block<|WP.seq<|rg 9 0<|mv0 rfl rfl<|mv0 rfl rfl<|mv0 rfl rfl<|gr H fun gj H=>Dv.ixr rfl trivial rfl rfl underlying75 underlying83 c83 gj.1 gj.2<|fr rfl trivial rfl fa83_1 rfl<|ldR rfl trivial rfl sc3 rfl<|el H fun tm hah H=>cl rfl cal12 rfl (r01_Around.c hah)<|bn0 rfl rfl rfl run_add<|as0 rfl rfl<|.fin<|WP.seqr H id (fun pe:Int×Int×Bool×(List RDag)×RSnd×SSnd×VView=>[(0,vI a0),(1,sl GMade.K a1),(2,sl GMade.K a2),(3,sl SStep.K a3),(8,vB false),(9,vI (w64 (1+ta))),(10,eq ga.1),(11,eq gb.1),(12,eq (.pointer (some ⟨ba,0,none⟩))),(13,eq gi.1),(14,eq (.pointer (some ⟨bc,0,none⟩))),(15,vI pe.1),(16,vI (w64 (xb+tm))),(17,vI xc),(50,vB false),(63,vB (decide (xc<20))),(79,vI pe.2.1),(118,vB pe.2.2.1)]) (fun pe:Int×Int×Bool×(List RDag)×RSnd×SSnd×VView=>[blk bc 44 [sl RDag.K pe.2.2.2.1],blk ba 80 [vS pe.2.2.2.2.1.fSelf,vS pe.2.2.2.2.1.fTo,vI pe.2.2.2.2.1.fN,vI pe.2.2.2.2.1.fQ.fMost,sl Edu.K pe.2.2.2.2.1.fQ.fL,vI pe.2.2.2.2.1.fQ.fLost,vB pe.2.2.2.2.1.fFly.fAck,vS pe.2.2.2.2.1.fFly.fFrom,vS pe.2.2.2.2.1.fFly.fTo,vI pe.2.2.2.2.1.fFly.fID,sl Edu.K pe.2.2.2.2.1.fFly.fEdus,vB pe.2.2.2.2.1.fOn,vI pe.2.2.2.2.1.fTries,vI pe.2.2.2.2.1.fDue],SSnd.O ga pe.2.2.2.2.2.1,VView.O gb pe.2.2.2.2.2.2,own Event.K gi.1 tg]++F) (fun pe H=>?_) (fun H=>?_)
 ·
  refine WP.seq<|rg 4 0<|mv0 rfl rfl<|lds 1 rfl trivial rfl sg80 rfl rfl<|vg (SSnd.opn 2 rfl) fun gk hai=>?_
  refine vg (SQue.opn 1 rfl) fun gl haj=>?_
  refine vg (Ctr.opn 4 rfl) fun gn hak=>?_
  refine el H fun tn ham H=>cll 10 [4,1,2,3,0,5,6,7,8,9] cal40 (Tr.weak (w18_like.c ham (b0_:=gk.1) (v0_0:=gk.2.1) (v0_1:=gk.2.2.1) (v0_2:=gk.2.2.2) (v0_3:=gl.2.1) (v0_4:=gl.2.2) (d0_0:=gl.1) (e0_0:=haj) (d0_1:=gn) (e0_1:=hak)) (.cons (wk_ptr hai) (.cons wk_id .nil))) ?_
  refine un0 rfl rfl (run_not _)<|.fin<|cd H rfl (fun _ H=>?_) (fun _ H=>?_)
  ·
   refine WP.seq<|rg 1 0<|as0 rfl rfl<|.fin<|wg (SQue.shut (p:=gk.2.1) (m:=pe.2.2.2.2.2.1.fQueue) (gl.1,gl.2.1,gl.2.2) haj (pm 10 [1,2,3,0,4,5,6,7,8,9])) fun _ _=>?_
   refine wg (Ctr.shut (p:=gk.2.2.1) (m:=pe.2.2.2.2.2.1.fids) gn hak (pm 8 [1,0,2,3,4,5,6,7])) fun _ _=>?_
   refine wg (SSnd.shut (p:=ga) (m:=pe.2.2.2.2.2.1) (gk.1,gk.2.1,gk.2.2.1,gk.2.2.2) hai (pm 8 [2,1,0,3,4,5,6,7])) fun _ _=>?_
   have H:=H.outr
   have H:=H.outr
   cases H.out; exact r5 i2 rfl (.cons (res_tmp rfl) .nil)
  refine WP.skip ?_
  have H:=H.out
  refine ng (SQue.shut (p:=gk.2.1) (m:=pe.2.2.2.2.2.1.fQueue) (gl.1,gl.2.1,gl.2.2) haj (pm 10 [1,2,3,0,4,5,6,7,8,9])) fun _ _=>?_
  refine ng (Ctr.shut (p:=gk.2.2.1) (m:=pe.2.2.2.2.2.1.fids) gn hak (pm 8 [1,0,2,3,4,5,6,7])) fun _ _=>?_
  refine ng (SSnd.shut (p:=ga) (m:=pe.2.2.2.2.2.1) (gk.1,gk.2.1,gk.2.2.1,gk.2.2.2) hai (pm 8 [2,1,0,3,4,5,6,7])) fun _ _=>?_
  refine ng (sg 5 [1,2,0,3,4] 0) fun _ _=>?_
  exact jn (pe.1,w64 (xb+tm),pe.2.1,pe.2.2.1,!tn,pe.2.2.2.1,(⟨pe.2.2.2.2.1.fSelf,pe.2.2.2.2.1.fTo,pe.2.2.2.2.1.fN,pe.2.2.2.2.1.fQ,pe.2.2.2.2.1.fFly,pe.2.2.2.2.1.fOn,pe.2.2.2.2.1.fTries,pe.2.2.2.2.1.fDue⟩:RSnd),pe.2.2.2.2.2.1,pe.2.2.2.2.2.2) H
 refine WP.seq<|rg 6 0<|mv0 rfl rfl<|mv0 rfl rfl<|gr H fun go H=>Dv.ixr rfl trivial rfl rfl underlying75 underlying83 c83 go.1 go.2<|fr rfl trivial rfl fa83_0 rfl<|ldR rfl trivial rfl sc3 rfl<|el H fun tp han H=>cl rfl cal12 rfl (r01_Around.c han)<|.fin<|WP.block<|WP.seqn H id (fun pf:Bool=>[(0,vI a0),(1,sl GMade.K a1),(2,sl GMade.K a2),(3,sl SStep.K a3),(8,vB false),(9,vI (w64 (1+ta))),(10,eq ga.1),(11,eq gb.1),(12,eq (.pointer (some ⟨ba,0,none⟩))),(13,eq gi.1),(14,eq (.pointer (some ⟨bc,0,none⟩))),(15,vI xa),(16,vI (w64 (xb+tm))),(17,vI xc),(50,vB false),(63,vB (decide (xc<20))),(79,vI tp),(118,vB pf)]) (fun pf:Bool=>[blk bc 44 [sl RDag.K xd],blk ba 80 [vS xe.fSelf,vS xe.fTo,vI xe.fN,vI xe.fQ.fMost,sl Edu.K xe.fQ.fL,vI xe.fQ.fLost,vB xe.fFly.fAck,vS xe.fFly.fFrom,vS xe.fFly.fTo,vI xe.fFly.fID,sl Edu.K xe.fFly.fEdus,vB xe.fOn,vI xe.fTries,vI xe.fDue],own Event.K gi.1 tg,SSnd.O ga xf,VView.O gb xg]++F) (fun pf H=>?_) (fun H=>?_)
 rotate_left
 ·
  refine WP.seq<|rg 2 0<|bn0 rfl rfl rfl run_eq<|as0 rfl rfl<|.fin<|cd H rfl (fun _ H=>?_) (fun _ H=>?_)
  ·
   refine WP.skip ?_
   have H:=H.out
   exact jn (tp==4) H
  refine WP.seq<|rg 2 0<|bn0 rfl rfl rfl run_eq<|as0 rfl rfl<|.fin<|cd H rfl (fun _ H=>?_) (fun _ H=>?_)
  ·
   refine WP.skip ?_
   have H:=H.out
   exact jn (tp==5) H
  refine rg 2 0<|bn0 rfl rfl rfl run_eq<|as0 rfl rfl<|.fin ?_
  have H:=H.out
  exact jn (tp==6) H
 refine cd H rfl (fun _ H=>?_) (fun _ H=>?_)
 ·
  refine WP.seq<|rg 15 7680<|lds 1 rfl trivial rfl sg80 rfl rfl<|lds 0 rfl trivial rfl sg44 rfl rfl<|mv0 rfl rfl<|el H fun tq hao H=>cl rfl cal35 rfl (r18_Send.c hao)<|mv0 rfl rfl<|ex0 rfl trivial rfl rfl<|ex0 rfl trivial rfl rfl<|ex0 rfl trivial rfl rfl<|ex0 rfl trivial rfl rfl<|al rfl trivial zc80 nofun fun bd=>al rfl trivial zc78 nofun fun be=>sx 1 rfl trivial rfl rfl cA sz80 rfl rfl rfl nofun ?_
  refine sx 0 rfl trivial rfl rfl cA sz78 rfl rfl rfl nofun ?_
  refine as0 rfl rfl<|as0 rfl rfl<|.fin<|WP.seq<|rg 2 2<|lds 1 rfl trivial rfl sg80 rfl rfl<|sx 3 rfl trivial rfl rfl cA sz80 rfl rfl rfl nofun ?_
  refine .fin<|WP.seq<|rg 12 776<|mv0 rfl rfl<|mv0 rfl rfl<|mv0 rfl rfl<|el H fun tu hap H=>cx 7 [5,6,0,1,2,3,4] cal15 (sender_Sender_Send.c hap (p0_:=ga) (p1_:=gb)) nofun fun _ _=>?_
  refine mv0 rfl rfl<|ex0 rfl trivial rfl rfl<|ex0 rfl trivial rfl rfl<|ex0 rfl trivial rfl rfl<|al rfl trivial zc46 nofun fun bg=>sx 0 rfl trivial rfl rfl cA sz46 rfl rfl rfl nofun ?_
  refine as0 rfl rfl<|as0 rfl rfl<|.fin<|WP.seq<|rg 14 0<|mv0 rfl rfl<|mv0 rfl rfl<|bn0 rfl rfl rfl (run_bne underlying4)<|mv0 rfl rfl ?_
  rcases bem (tu.2.1 != tq.2.2.1) with cg | cg
  rotate_left
  ·
   have H:=H.ct cg
   refine Dv.gh (gh_sh 142 cg rfl) (fun _ _=>?_)
   refine Dv.gh (gh_sh 143 cg rfl) (fun _ _=>?_)
   refine sk rfl rfl<|sk rfl rfl<|sk rfl rfl<|pt0 rfl rfl rfl<|mv0 rfl rfl<|sk rfl rfl<|sk rfl rfl<|sk rfl rfl<|sk rfl rfl<|pt0 rfl rfl rfl<|.fin<|WP.cond rfl (fun _=>?_) nofun
   refine WP.seq<|rg 1 0<|as0 rfl rfl<|.fin ?_
   have H:=H.outr
   have H:=H.outr
   have H:=H.outr
   cases H.out; exact rt i2 rfl () 8 [0,1,2,3,4,5,6,7] 8 (.cons (res_tmp rfl) .nil)
  have H:=H.cf cg
  refine Dv.gh (gh_sh 142 cg rfl) (fun _ _=>?_)
  refine Dv.gh (gh_sh 143 cg rfl) (fun _ _=>?_)
  refine mvg rfl rfl rfl<|mvg rfl rfl rfl<|bng rfl rfl rfl rfl run_ne<|pf0 rfl rfl rfl<|mv0 rfl rfl ?_
  rcases bem (tq.2.2.2 != tu.2.2.1) with ci | ci
  rotate_left
  ·
   have H:=H.ct ci
   refine Dv.gh (gh_sh 146 ci rfl) (fun _ _=>?_)
   refine Dv.gh (gh_sh 147 ci rfl) (fun _ _=>?_)
   refine Dv.gh (gh_sh 148 ci rfl) (fun _ _=>?_)
   refine sk rfl rfl<|sk rfl rfl<|sk rfl rfl<|sk rfl rfl<|pt0 rfl rfl rfl<|.fin<|WP.cond rfl (fun _=>?_) nofun
   refine WP.seq<|rg 1 0<|as0 rfl rfl<|.fin ?_
   have H:=H.outr
   have H:=H.outr
   have H:=H.outr
   cases H.out; exact rt i2 rfl () 8 [0,1,2,3,4,5,6,7] 8 (.cons (res_tmp rfl) .nil)
  have H:=H.cf ci
  refine Dv.gh (gh_sh 146 ci rfl) (fun _ _=>?_)
  refine Dv.gh (gh_sh 147 ci rfl) (fun _ _=>?_)
  refine Dv.gh (gh_sh 148 ci rfl) (fun _ _=>?_)
  refine lds 0 rfl (gg rfl) rfl sg46 rfl rfl<|lds 3 rfl (gg rfl) rfl sg78 rfl rfl<|el H fun tv haq H=>Dv.call rfl (gg rfl) cal36 rfl (r04_Same.c haq)<|ung rfl rfl rfl (run_not _)<|pf0 rfl rfl rfl<|.fin<|cd H rfl (fun _ H=>?_) (fun _ H=>?_)
  ·
   refine WP.seq<|rg 1 0<|as0 rfl rfl<|.fin ?_
   have H:=H.outr
   have H:=H.outr
   have H:=H.outr
   cases H.out; exact rt i2 rfl () 8 [0,1,2,3,4,5,6,7] 8 (.cons (res_tmp rfl) .nil)
  refine WP.skip ?_
  have H:=H.out
  refine ng (sg 8 [0,3,4,5,6,1,2,7] 3) fun _ _=>?_
  exact jn (xa,tp,pf,xd,(⟨tq.1.fSelf,tq.1.fTo,tq.1.fN,tq.1.fQ,tq.1.fFly,tq.1.fOn,tq.1.fTries,tq.1.fDue⟩:RSnd),tu.2.2.2,xg) H
 refine WP.seqn H id (fun pg:Bool=>[(0,vI a0),(1,sl GMade.K a1),(2,sl GMade.K a2),(3,sl SStep.K a3),(8,vB false),(9,vI (w64 (1+ta))),(10,eq ga.1),(11,eq gb.1),(12,eq (.pointer (some ⟨ba,0,none⟩))),(13,eq gi.1),(14,eq (.pointer (some ⟨bc,0,none⟩))),(15,vI xa),(16,vI (w64 (xb+tm))),(17,vI xc),(50,vB false),(63,vB (decide (xc<20))),(79,vI tp),(118,vB pf),(154,vB pg)]) (fun pg:Bool=>[blk bc 44 [sl RDag.K xd],blk ba 80 [vS xe.fSelf,vS xe.fTo,vI xe.fN,vI xe.fQ.fMost,sl Edu.K xe.fQ.fL,vI xe.fQ.fLost,vB xe.fFly.fAck,vS xe.fFly.fFrom,vS xe.fFly.fTo,vI xe.fFly.fID,sl Edu.K xe.fFly.fEdus,vB xe.fOn,vI xe.fTries,vI xe.fDue],own Event.K gi.1 tg,SSnd.O ga xf,VView.O gb xg]++F) (fun pg H=>?_) (fun H=>?_)
 rotate_left
 ·
  refine WP.seq<|rg 2 0<|bn0 rfl rfl rfl run_eq<|as0 rfl rfl<|.fin<|cd H rfl (fun _ H=>?_) (fun _ H=>?_)
  ·
   refine WP.skip ?_
   have H:=H.out
   exact jn (tp==7) H
  refine rg 2 0<|bn0 rfl rfl rfl run_eq<|as0 rfl rfl<|.fin ?_
  have H:=H.out
  exact jn (tp==8) H
 refine cd H rfl (fun _ H=>?_) (fun _ H=>?_)
 ·
  refine WP.seq<|rg 6 0<|mv0 rfl rfl<|mv0 rfl rfl<|gr H fun gp H=>Dv.ixr rfl trivial rfl rfl underlying75 underlying83 c83 gp.1 gp.2<|fr rfl trivial rfl fa83_1 rfl<|ldR rfl trivial rfl sc3 rfl<|as0 rfl rfl<|.fin<|WP.seqn H id (fun ph:Int×Bool=>[(0,vI a0),(1,sl GMade.K a1),(2,sl GMade.K a2),(3,sl SStep.K a3),(8,vB false),(9,vI (w64 (1+ta))),(10,eq ga.1),(11,eq gb.1),(12,eq (.pointer (some ⟨ba,0,none⟩))),(13,eq gi.1),(14,eq (.pointer (some ⟨bc,0,none⟩))),(15,vI xa),(16,vI (w64 (xb+tm))),(17,vI xc),(25,vI ph.1),(50,vB false),(63,vB (decide (xc<20))),(79,vI tp),(118,vB pf),(154,vB pg),(168,vB ph.2)]) (fun ph:Int×Bool=>[blk bc 44 [sl RDag.K xd],blk ba 80 [vS xe.fSelf,vS xe.fTo,vI xe.fN,vI xe.fQ.fMost,sl Edu.K xe.fQ.fL,vI xe.fQ.fLost,vB xe.fFly.fAck,vS xe.fFly.fFrom,vS xe.fFly.fTo,vI xe.fFly.fID,sl Edu.K xe.fFly.fEdus,vB xe.fOn,vI xe.fTries,vI xe.fDue],own Event.K gi.1 tg,SSnd.O ga xf,VView.O gb xg]++F) (fun ph H=>?_) (fun H=>?_)
  rotate_left
  ·
   refine WP.seq<|rg 7 0<|mv0 rfl rfl<|mv0 rfl rfl<|gr H fun gq H=>Dv.ixr rfl trivial rfl rfl underlying75 underlying83 c83 gq.1 gq.2<|fr rfl trivial rfl fa83_0 rfl<|ldR rfl trivial rfl sc3 rfl<|el H fun tw har H=>cl rfl cal12 rfl (r01_Around.c har)<|bn0 rfl rfl rfl run_eq<|.fin<|cd H rfl (fun _ H=>?_) (fun _ H=>?_)
   rotate_left
   ·
    refine WP.skip ?_
    have H:=H.out
    exact jn ((SStep.K.at a3 xc).fN,(tw==7)) H
   refine rg 4 0<|fb rfl trivial rfl fa80_4<|fb rfl trivial rfl fa78_3<|ld 1 rfl trivial rfl sc3 rfl rfl<|as0 rfl rfl<|.fin ?_
   have H:=H.out
   exact jn (xe.fFly.fID,(tw==7)) H
  refine WP.seq<|rg 9 192<|lds 1 rfl trivial rfl sg80 rfl rfl<|mv0 rfl rfl<|el H fun tx has H=>cl rfl cal37 rfl (r18_Ack.c has)<|mv0 rfl rfl<|ex0 rfl trivial rfl rfl<|ex0 rfl trivial rfl rfl<|al rfl trivial zc80 nofun fun bh=>sx 0 rfl trivial rfl rfl cA sz80 rfl rfl rfl nofun ?_
  refine as0 rfl rfl<|.fin<|WP.seq<|rg 2 2<|lds 0 rfl trivial rfl sg80 rfl rfl<|sx 2 rfl trivial rfl rfl cA sz80 rfl rfl rfl nofun ?_
  refine .fin<|WP.seq<|rg 5 4<|mv0 rfl rfl<|mv0 rfl rfl<|el H fun tz hau H=>cx 6 [4,0,1,2,3,5] cal29 (sender_Sender_Ack.c hau (p0_:=ga)) nofun fun _ _=>?_
  refine mv0 rfl rfl<|bn0 rfl rfl rfl (run_bne underlying4)<|.fin<|cd H rfl (fun _ H=>?_) (fun _ H=>?_)
  ·
   refine WP.seq<|rg 1 0<|as0 rfl rfl<|.fin ?_
   have H:=H.outr
   have H:=H.outr
   have H:=H.outr
   cases H.out; exact rt i2 rfl () 6 [0,1,2,3,4,5] 6 (.cons (res_tmp rfl) .nil)
  refine WP.skip ?_
  have H:=H.out
  refine ng (sg 6 [1,2,3,0,5,4] 1) fun _ _=>?_
  exact jn (xa,tp,pf,xd,(⟨tx.1.fSelf,tx.1.fTo,tx.1.fN,tx.1.fQ,tx.1.fFly,tx.1.fOn,tx.1.fTries,tx.1.fDue⟩:RSnd),tz.2,xg) H
 refine WP.seq<|rg 2 0<|bn0 rfl rfl rfl run_eq<|as0 rfl rfl<|.fin<|cd H rfl (fun _ H=>?_) (fun _ H=>?_)
 ·
  refine WP.seq<|rg 1 0<|as0 rfl rfl<|.fin<|WP.block<|wg (sg 5 [0,1,2,3,4] 0) fun _ _=>?_
  refine lp (fun j_ (pi:Int×Int×(List RDag)×VView)=>w18_SenderPlays.l1 k tg xe xf tp pf j_ pi.1 pi.2.1 pi.2.2.1 pi.2.2.2) (xa,0,xd,xg) H (fun pi=>[(0,vI a0),(1,sl GMade.K a1),(2,sl GMade.K a2),(3,sl SStep.K a3),(8,vB false),(9,vI (w64 (1+ta))),(10,eq ga.1),(11,eq gb.1),(12,eq (.pointer (some ⟨ba,0,none⟩))),(13,eq gi.1),(14,eq (.pointer (some ⟨bc,0,none⟩))),(15,vI pi.1),(16,vI (w64 (xb+tm))),(17,vI xc),(28,vI pi.2.1),(50,vB false),(63,vB (decide (xc<20))),(79,vI tp),(118,vB pf),(154,vB pg),(184,vB (tp==9))]) (fun pi=>[blk bc 44 [sl RDag.K pi.2.2.1],blk ba 80 [vS xe.fSelf,vS xe.fTo,vI xe.fN,vI xe.fQ.fMost,sl Edu.K xe.fQ.fL,vI xe.fQ.fLost,vB xe.fFly.fAck,vS xe.fFly.fFrom,vS xe.fFly.fTo,vI xe.fFly.fID,sl Edu.K xe.fFly.fEdus,vB xe.fOn,vI xe.fTries,vI xe.fDue],own Event.K gi.1 tg,SSnd.O ga xf,VView.O gb pi.2.2.2]++F) ?_
  rintro j_ ⟨xh,xi,xj,xk⟩ H
  rcases j_ with _ | jc
  ·
   exact (Gets.no H).elim
  try dsimp only at H
  rw [w18_SenderPlays.l1] at H
  refine WP.seq<|WP.seq<|rg 8 0<|mv0 rfl rfl<|bn0 rfl rfl rfl run_lt<|mv0 rfl rfl ?_
  rcases bem (decide (xi<3)) with cj | cj
  ·
   have H:=H.cf cj
   refine Dv.gh (gh_sh 187 cj rfl) (fun _ _=>?_)
   refine Dv.gh (gh_sh 188 cj rfl) (fun _ _=>?_)
   refine sk rfl rfl<|sk rfl rfl<|sk rfl rfl<|sk rfl rfl<|pf0 rfl rfl rfl<|.fin<|WP.cond rfl nofun (fun _=>?_)
   refine WP.exit ?_
   have H:=H.out
   refine ng (sg 5 [0,1,3,4,2] 0) fun _ _=>?_
   exact jn (xh,tp,pf,xj,(⟨xe.fSelf,xe.fTo,xe.fN,xe.fQ,xe.fFly,xe.fOn,xe.fTries,xe.fDue⟩:RSnd),xf,xk) H
  have H:=H.ct cj
  refine Dv.gh (gh_sh 187 cj rfl) (fun _ _=>?_)
  refine Dv.gh (gh_sh 188 cj rfl) (fun _ _=>?_)
  refine mvg rfl rfl rfl<|mvg rfl rfl rfl<|Dv.lenw rfl (gg rfl) rfl (mem_at 2 rfl) underlying28<|bng rfl rfl rfl rfl run_lt<|pt0 rfl rfl rfl<|.fin<|cd H rfl (fun _ H=>?_) (fun _ H=>?_)
  rotate_left
  ·
   refine WP.exit ?_
   have H:=H.out
   refine ng (sg 5 [0,1,3,4,2] 0) fun _ _=>?_
   exact jn (xh,tp,pf,xj,(⟨xe.fSelf,xe.fTo,xe.fN,xe.fQ,xe.fFly,xe.fOn,xe.fTries,xe.fDue⟩:RSnd),xf,xk) H
  refine WP.skip<|WP.seq<|WP.block<|WP.seq<|rg 6 32<|mv0 rfl rfl<|mv0 rfl rfl<|mv0 rfl rfl<|gr H fun gt H=>?_
  have hav:xh.toNat<tg.length:=idx_lt gt
  refine Dv.ixw rfl trivial rfl (mem_at 2 rfl) rfl underlying28 underlying55 c55 gt.1 gt.2<|Dv.ldws (j:=xh.toNat) (f:=0) rfl trivial rfl (mem_at 2 rfl) hav underlying55 rfl c55 (Nat.le_of_ble_eq_true rfl)<|el H fun taa haw H=>cx 5 [4,0,1,2,3] cal19 (view_View_Add.c haw (p0_:=gb)) nofun fun _ _=>?_
  refine .fin<|WP.seq<|dg Tryz.checked.mixed 12 1536<|lds 1 rfl trivial rfl sg44 rfl rfl<|mv0 rfl rfl<|mv0 rfl rfl<|gr H fun gu H=>?_
  have hax:xh.toNat<tg.length:=idx_lt gu
  refine Dv.ixw rfl trivial rfl (mem_at 3 rfl) rfl underlying28 underlying55 c55 gu.1 gu.2<|Dv.ldws (j:=xh.toNat) (f:=0) rfl trivial rfl (mem_at 3 rfl) hax underlying55 rfl c55 (Nat.le_of_ble_eq_true rfl)<|el H fun tac hay H=>cl rfl cal20 rfl (r10_Add.c hay)<|mv0 rfl rfl<|ex0 rfl trivial rfl rfl<|ex0 rfl trivial rfl rfl<|al rfl trivial zc44 (fun _=>(pend_in (fun _=>trivial) (pend_in (fun _=>trivial) (pend_in (fun _=>trivial) (pend_in (fun _=>trivial) (pend_in (fun _=>(mem_at 4 rfl)) (pend_in (fun _=>(mem_at 4 rfl)) (pend_in (fun _=>trivial) (pend_in (fun _=>trivial) (pend_in (fun _=>(mem_at 2 rfl)) pend_nil)))))))))) fun bi=>sx 0 rfl trivial rfl rfl cA sz44 rfl rfl rfl (fun _=>(pend_in (fun _=>trivial) (pend_by (by kernel_rfl) (pend_by (by kernel_rfl) (pend_by (by kernel_rfl) (pend_by (by kernel_rfl) (pend_by (by kernel_rfl) (pend_by (by kernel_rfl) (pend_by (by kernel_rfl) (pend_by (by kernel_rfl) pend_nil)))))))))) ?_
  refine as0 rfl rfl<|.fin<|WP.seq<|rg 2 2<|lds 0 rfl trivial rfl sg44 rfl rfl<|sx 2 rfl trivial rfl rfl cA sz44 rfl rfl rfl nofun ?_
  refine .fin<|rg 3 0<|mv0 rfl rfl<|bn0 rfl rfl rfl run_add<|as0 rfl rfl<|.fin<|rg 3 0<|mv0 rfl rfl<|bn0 rfl rfl rfl run_add<|as0 rfl rfl<|.fin<|ng (sg 6 [0,2,3,4,5,1] 1) fun _ _=>?_
  exact bk jc (w64 (xh+1),w64 (xi+1),tac.1.fD,taa.2) H
 refine WP.seq<|rg 8 192<|mv0 rfl rfl<|mv0 rfl rfl<|gr H fun gv H=>Dv.ixr rfl trivial rfl rfl underlying75 underlying83 c83 gv.1 gv.2<|fr rfl trivial rfl fa83_2 rfl<|ldsR rfl trivial rfl sg32 rfl<|el H fun tad haz H=>cl rfl cal38 rfl (r03_Good.c haz)<|al rfl trivial zc32 nofun fun bj=>sx 0 rfl trivial rfl rfl cA sz32 rfl rfl rfl nofun ?_
 refine .fin<|WP.seq<|rg 14 3840<|lds 2 rfl trivial rfl sg80 rfl rfl<|lds 0 rfl trivial rfl sg32 rfl rfl<|el H fun tae hbb H=>cl rfl cal39 rfl (r18_Put.c hbb)<|mv0 rfl rfl<|ex0 rfl trivial rfl rfl<|ex0 rfl trivial rfl rfl<|ex0 rfl trivial rfl rfl<|ex0 rfl trivial rfl rfl<|al rfl trivial zc80 nofun fun bl=>al rfl trivial zc32 nofun fun bm=>sx 1 rfl trivial rfl rfl cA sz80 rfl rfl rfl nofun ?_
 refine sx 0 rfl trivial rfl rfl cA sz32 rfl rfl rfl nofun ?_
 refine as0 rfl rfl<|as0 rfl rfl<|.fin<|WP.seq<|rg 2 2<|lds 1 rfl trivial rfl sg80 rfl rfl<|sx 4 rfl trivial rfl rfl cA sz80 rfl rfl rfl nofun ?_
 refine .fin<|WP.seq<|wg (SSnd.opn 6 rfl) fun gw hbe=>?_
 refine WP.dgf (kf:=10) Tryz.checked.mixed [(0,false),(1,false),(2,false),(3,false),(4,false),(5,true),(6,false),(7,false),(8,false),(9,false)] [(11,true),(12,false),(13,false)] rfl (by kernel_rfl)<|mv0 rfl rfl<|Dv.nilpp hbe rfl trivial rfl<|fp hbe rfl trivial rfl fa40_0<|ld 0 rfl trivial rfl sc36 rfl rfl<|lds 6 rfl trivial rfl sg32 rfl rfl<|Dv.float ?_ (fun hk_=>?_)
 ·
  refine up_al rfl trivial zc32 (all1 (fun _=>mem_at 7 rfl) (all1 (fun _=>mem_at 1 rfl) (all1 (fun _=>trivial) (all1 (fun _=>trivial) (all1 (fun _=>trivial) all0))))) (fun bn=>?_)
  refine el H fun taf hbf H=>cx 12 [2,0,1,3,4,5,6,7,8,9,10,11] cal13 (queue_Queue_Put.c hbf (p0_:=gw.2.1)) pC fun _ _=>?_
  refine mv0 rfl rfl<|ex0 rfl trivial rfl rfl<|ex0 rfl trivial rfl rfl<|ex0 rfl trivial rfl rfl<|sx 1 rfl trivial rfl rfl cA sz32 rfl rfl rfl (fun _=>(pend_in (fun _=>trivial) (pend_in (fun _=>trivial) (pend_by (by kernel_rfl) (pend_by (by kernel_rfl) (pend_by (by kernel_rfl) (pend_by (by kernel_rfl) (pend_by (by kernel_rfl) (pend_by (by kernel_rfl) (pend_by (by kernel_rfl) pend_nil)))))))))) ?_
  refine as0 rfl rfl<|as0 rfl rfl<|.fin<|WP.seq<|rg 13 0<|lds 1 rfl trivial rfl sg32 rfl rfl<|lds 5 rfl trivial rfl sg32 rfl rfl<|Dv.nes [.int .i64 taf.1.fKind,.string taf.1.fRoom,.string taf.1.fUser,.string taf.1.fEvent,.string taf.1.fThread,.bool taf.1.fPrivate,.bool taf.1.fOn,.int .i64 taf.1.fSpan,.int .i64 taf.1.fState,.int .i64 taf.1.fTick,.int .i64 taf.1.fStamp] [.int .i64 tae.2.1.fKind,.string tae.2.1.fRoom,.string tae.2.1.fUser,.string tae.2.1.fEvent,.string tae.2.1.fThread,.bool tae.2.1.fPrivate,.bool tae.2.1.fOn,.int .i64 tae.2.1.fSpan,.int .i64 tae.2.1.fState,.int .i64 tae.2.1.fTick,.int .i64 tae.2.1.fStamp] rfl trivial rfl rfl rfl rfl eg32 (fun _=>equal_of 2 (by decide) (fun _=>eqt32 taf.1 tae.2.1))<|mv0 rfl rfl ?_
  rcases bem (!decide (taf.1=tae.2.1)) with ck | ck
  rotate_left
  ·
   have H:=H.ct ck
   refine Dv.gh (gh_sh 107 ck rfl) (fun _ _=>?_)
   refine Dv.gh (gh_sh 108 ck rfl) (fun _ _=>?_)
   refine sk rfl rfl<|sk rfl rfl<|sk rfl rfl<|pt0 rfl rfl rfl<|mv0 rfl rfl<|sk rfl rfl<|sk rfl rfl<|sk rfl rfl<|pt0 rfl rfl rfl<|.fin<|WP.cond rfl (fun _=>?_) nofun
   refine WP.seq<|rg 1 0<|as0 rfl rfl<|.fin<|wg (SSnd.shut (p:=ga) (m:=(⟨taf.2.2.2,xf.fself,xf.fto,xf.fids,xf.fair⟩:SSnd)) (gw.1,gw.2.1,gw.2.2.1,gw.2.2.2) hbe (pm 12 [2,0,3,4,1,5,6,7,8,9,10,11])) fun _ _=>?_
   have H:=H.outr
   have H:=H.outr
   have H:=H.outr
   cases H.out; exact rt i2 rfl () 9 [0,1,2,3,4,5,6,7,8] 9 (.cons (res_tmp rfl) .nil)
  have H:=H.cf ck
  refine Dv.gh (gh_sh 107 ck rfl) (fun _ _=>?_)
  refine Dv.gh (gh_sh 108 ck rfl) (fun _ _=>?_)
  refine mvg rfl rfl rfl<|mvg rfl rfl rfl<|bng rfl rfl rfl rfl (run_bne underlying4)<|pf0 rfl rfl rfl<|mv0 rfl rfl ?_
  rcases bem (taf.2.1 != tae.2.2.1) with cn | cn
  rotate_left
  ·
   have H:=H.ct cn
   refine Dv.gh (gh_sh 111 cn rfl) (fun _ _=>?_)
   refine Dv.gh (gh_sh 112 cn rfl) (fun _ _=>?_)
   refine Dv.gh (gh_sh 113 cn rfl) (fun _ _=>?_)
   refine sk rfl rfl<|sk rfl rfl<|sk rfl rfl<|pt0 rfl rfl rfl<|.fin<|WP.cond rfl (fun _=>?_) nofun
   refine WP.seq<|rg 1 0<|as0 rfl rfl<|.fin<|wg (SSnd.shut (p:=ga) (m:=(⟨taf.2.2.2,xf.fself,xf.fto,xf.fids,xf.fair⟩:SSnd)) (gw.1,gw.2.1,gw.2.2.1,gw.2.2.2) hbe (pm 12 [2,0,3,4,1,5,6,7,8,9,10,11])) fun _ _=>?_
   have H:=H.outr
   have H:=H.outr
   have H:=H.outr
   cases H.out; exact rt i2 rfl () 9 [0,1,2,3,4,5,6,7,8] 9 (.cons (res_tmp rfl) .nil)
  have H:=H.cf cn
  refine Dv.gh (gh_sh 111 cn rfl) (fun _ _=>?_)
  refine Dv.gh (gh_sh 112 cn rfl) (fun _ _=>?_)
  refine Dv.gh (gh_sh 113 cn rfl) (fun _ _=>?_)
  refine mvg rfl rfl rfl<|mvg rfl rfl rfl<|bng rfl rfl rfl rfl run_ne<|pf0 rfl rfl rfl<|.fin<|cd H rfl (fun _ H=>?_) (fun _ H=>?_)
  ·
   refine WP.seq<|rg 1 0<|as0 rfl rfl<|.fin<|wg (SSnd.shut (p:=ga) (m:=(⟨taf.2.2.2,xf.fself,xf.fto,xf.fids,xf.fair⟩:SSnd)) (gw.1,gw.2.1,gw.2.2.1,gw.2.2.2) hbe (pm 12 [2,0,3,4,1,5,6,7,8,9,10,11])) fun _ _=>?_
   have H:=H.outr
   have H:=H.outr
   have H:=H.outr
   cases H.out; exact rt i2 rfl () 9 [0,1,2,3,4,5,6,7,8] 9 (.cons (res_tmp rfl) .nil)
  refine WP.skip ?_
  have H:=H.out
  refine ng (SSnd.shut (p:=ga) (m:=(⟨taf.2.2.2,xf.fself,xf.fto,xf.fids,xf.fair⟩:SSnd)) (gw.1,gw.2.1,gw.2.2.1,gw.2.2.2) hbe (pm 12 [2,0,3,4,1,5,6,7,8,9,10,11])) fun _ _=>?_
  refine ng (sg 9 [1,2,3,4,5,6,0,8,7] 4) fun _ _=>?_
  exact jn (xa,tp,pf,xd,(⟨tae.1.fSelf,tae.1.fTo,tae.1.fN,tae.1.fQ,tae.1.fFly,tae.1.fOn,tae.1.fTries,tae.1.fDue⟩:RSnd),(⟨taf.2.2.2,xf.fself,xf.fto,xf.fids,xf.fair⟩:SSnd),xg) H
 refine el H fun tag hbg H=>cx 11 [1,0,2,3,4,5,6,7,8,9,10] cal13 (queue_Queue_Put.c hbg (p0_:=gw.2.1)) pC fun _ _=>?_
 refine mv0 rfl rfl<|ex0 rfl trivial rfl rfl<|ex0 rfl trivial rfl rfl<|ex0 rfl trivial rfl rfl<|.fin<|up_al rfl trivial zc32 (all1 (fun _=>trivial) (all1 (fun _=>trivial) (all1 (fun _=>trivial) (all1 (fun _=>trivial) (allp (by kernel_rfl) (allp (by kernel_rfl) (allp (by kernel_rfl) (allp (by kernel_rfl) (allp (by kernel_rfl) all0))))))))) (fun bp=>?_)
 refine sx 0 rfl trivial rfl rfl cA sz32 rfl rfl rfl (fun _=>(pend_in (fun _=>trivial) (pend_in (fun _=>trivial) (pend_by (by kernel_rfl) (pend_by (by kernel_rfl) (pend_by (by kernel_rfl) (pend_by (by kernel_rfl) (pend_by (by kernel_rfl) (pend_by (by kernel_rfl) (pend_by (by kernel_rfl) pend_nil)))))))))) ?_
 refine as0 rfl rfl<|as0 rfl rfl<|.fin<|WP.seq<|rg 13 0<|lds 0 rfl trivial rfl sg32 rfl rfl<|lds 5 rfl trivial rfl sg32 rfl rfl<|Dv.nes [.int .i64 tag.1.fKind,.string tag.1.fRoom,.string tag.1.fUser,.string tag.1.fEvent,.string tag.1.fThread,.bool tag.1.fPrivate,.bool tag.1.fOn,.int .i64 tag.1.fSpan,.int .i64 tag.1.fState,.int .i64 tag.1.fTick,.int .i64 tag.1.fStamp] [.int .i64 tae.2.1.fKind,.string tae.2.1.fRoom,.string tae.2.1.fUser,.string tae.2.1.fEvent,.string tae.2.1.fThread,.bool tae.2.1.fPrivate,.bool tae.2.1.fOn,.int .i64 tae.2.1.fSpan,.int .i64 tae.2.1.fState,.int .i64 tae.2.1.fTick,.int .i64 tae.2.1.fStamp] rfl trivial rfl rfl rfl rfl eg32 (fun _=>equal_of 2 (by decide) (fun _=>eqt32 tag.1 tae.2.1))<|mv0 rfl rfl ?_
 rcases bem (!decide (tag.1=tae.2.1)) with ck | ck
 rotate_left
 ·
  have H:=H.ct ck
  refine Dv.gh (gh_sh 107 ck rfl) (fun _ _=>?_)
  refine Dv.gh (gh_sh 108 ck rfl) (fun _ _=>?_)
  refine sk rfl rfl<|sk rfl rfl<|sk rfl rfl<|pt0 rfl rfl rfl<|mv0 rfl rfl<|sk rfl rfl<|sk rfl rfl<|sk rfl rfl<|pt0 rfl rfl rfl<|.fin<|WP.cond rfl (fun _=>?_) nofun
  refine WP.seq<|rg 1 0<|as0 rfl rfl<|.fin<|wg (SSnd.shut (p:=ga) (m:=(⟨tag.2.2.2,xf.fself,xf.fto,xf.fids,xf.fair⟩:SSnd)) (gw.1,gw.2.1,gw.2.2.1,gw.2.2.2) hbe (pm 12 [2,1,3,4,0,5,6,7,8,9,10,11])) fun _ _=>?_
  have H:=H.outr
  have H:=H.outr
  have H:=H.outr
  cases H.out; exact rt i2 rfl () 9 [0,1,2,3,4,5,6,7,8] 9 (.cons (res_tmp rfl) .nil)
 have H:=H.cf ck
 refine Dv.gh (gh_sh 107 ck rfl) (fun _ _=>?_)
 refine Dv.gh (gh_sh 108 ck rfl) (fun _ _=>?_)
 refine mvg rfl rfl rfl<|mvg rfl rfl rfl<|bng rfl rfl rfl rfl (run_bne underlying4)<|pf0 rfl rfl rfl<|mv0 rfl rfl ?_
 rcases bem (tag.2.1 != tae.2.2.1) with cn | cn
 rotate_left
 ·
  have H:=H.ct cn
  refine Dv.gh (gh_sh 111 cn rfl) (fun _ _=>?_)
  refine Dv.gh (gh_sh 112 cn rfl) (fun _ _=>?_)
  refine Dv.gh (gh_sh 113 cn rfl) (fun _ _=>?_)
  refine sk rfl rfl<|sk rfl rfl<|sk rfl rfl<|pt0 rfl rfl rfl<|.fin<|WP.cond rfl (fun _=>?_) nofun
  refine WP.seq<|rg 1 0<|as0 rfl rfl<|.fin<|wg (SSnd.shut (p:=ga) (m:=(⟨tag.2.2.2,xf.fself,xf.fto,xf.fids,xf.fair⟩:SSnd)) (gw.1,gw.2.1,gw.2.2.1,gw.2.2.2) hbe (pm 12 [2,1,3,4,0,5,6,7,8,9,10,11])) fun _ _=>?_
  have H:=H.outr
  have H:=H.outr
  have H:=H.outr
  cases H.out; exact rt i2 rfl () 9 [0,1,2,3,4,5,6,7,8] 9 (.cons (res_tmp rfl) .nil)
 have H:=H.cf cn
 refine Dv.gh (gh_sh 111 cn rfl) (fun _ _=>?_)
 refine Dv.gh (gh_sh 112 cn rfl) (fun _ _=>?_)
 refine Dv.gh (gh_sh 113 cn rfl) (fun _ _=>?_)
 refine mvg rfl rfl rfl<|mvg rfl rfl rfl<|bng rfl rfl rfl rfl run_ne<|pf0 rfl rfl rfl<|.fin<|cd H rfl (fun _ H=>?_) (fun _ H=>?_)
 ·
  refine WP.seq<|rg 1 0<|as0 rfl rfl<|.fin<|wg (SSnd.shut (p:=ga) (m:=(⟨tag.2.2.2,xf.fself,xf.fto,xf.fids,xf.fair⟩:SSnd)) (gw.1,gw.2.1,gw.2.2.1,gw.2.2.2) hbe (pm 12 [2,1,3,4,0,5,6,7,8,9,10,11])) fun _ _=>?_
  have H:=H.outr
  have H:=H.outr
  have H:=H.outr
  cases H.out; exact rt i2 rfl () 9 [0,1,2,3,4,5,6,7,8] 9 (.cons (res_tmp rfl) .nil)
 refine WP.skip ?_
 have H:=H.out
 refine ng (SSnd.shut (p:=ga) (m:=(⟨tag.2.2.2,xf.fself,xf.fto,xf.fids,xf.fair⟩:SSnd)) (gw.1,gw.2.1,gw.2.2.1,gw.2.2.2) hbe (pm 12 [2,1,3,4,0,5,6,7,8,9,10,11])) fun _ _=>?_
 refine ng (sg 9 [1,2,3,4,5,6,0,8,7] 4) fun _ _=>?_
 exact jn (xa,tp,pf,xd,(⟨tae.1.fSelf,tae.1.fTo,tae.1.fN,tae.1.fQ,tae.1.fFly,tae.1.fOn,tae.1.fTries,tae.1.fDue⟩:RSnd),(⟨tag.2.2.2,xf.fself,xf.fto,xf.fids,xf.fair⟩:SSnd),xg) H
end Go.Proofs.YtmmaijneehmbgaaGreat
