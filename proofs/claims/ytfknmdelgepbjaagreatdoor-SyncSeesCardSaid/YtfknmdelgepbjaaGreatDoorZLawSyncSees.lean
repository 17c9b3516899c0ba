import Derived.Test.YtfknmdelgepbjaaGreatDoorZTab
import Derived.Test.YtfknmdelgepbjaaGreatDoorZWalks4
import Derived.Test.YtfknmdelgepbjaaGreatDoorConQ
import Derived.Test.YtfknmdelgepbjaaGreatDoorConA6
import Derived.Test.YtfknmdelgepbjaaGreatDoorConC4
import Derived.Lib.Join
import Derived.Eval
set_option linter.all false
set_option autoImplicit true
set_option maxRecDepth 10000
set_option maxHeartbeats 20000000
namespace Go.Proofs.YtfknmdelgepbjaaGreatDoor
open Go Go.Sp Tryz
theorem aA.c (h:aA.f k a0 a1 a2 a3=some r):Tr prog 5 [sl de.K a0,sl de.K a1,sl ai.K a2,vI a3] [lax] (γ:=Unit) (fun _=>True) (fun g=>vB r) (fun g=>[lax]):=by
 refine tf func5 h fun R0 F H=>?_
 refine so<|wr 13 3852<|go 2<|el H fun ta haa H=>cx 1 [0] (cL 9) (ou.c haa) nofun fun ga _=>?_
 refine Dv.gh (eF (E':=[(0,sl de.K a0),(1,sl de.K a1),(2,sl ai.K a2),(3,vI a3),(8,vB false),(26,sl Event.K ta)]) (l':=[lax]++F) 0 Q (ah Q ao (ah Q ao (ah Q ao (ah Q ao (ah Q ao (ah Q dm cT)))))) (bP (.cons av .nil) fun _=>av)) (fun _ _=>?_)
 refine el H fun tc hac H=>cx 1 [0] (cL 8) (fN.c hac) nofun fun gb _=>?_
 refine go 1<|eD Q T Q Q<|eD Q T Q Q<|eD Q T Q Q<|al Q T JG nofun fun ba=>al Q T EY nofun fun bc=>sy 1 ?_
 refine sy 0 ?_
 refine go 1<|WP.seq<|so<|ce H ?_ ?_ <;> intro H
 ·
  refine sp ?_
  cases H.out; exact et () 8 [0,1,2,3,4,5,6,7] 7
 refine WP.skip<|WP.kN H id (fun pa=>[(3,vI a3),(9,bO ba),(10,bO bc)]) (fun pa=>[ay bc 43 [sl aF.K pa.2.2.1.fV.fD,sl MK.K pa.2.2.1.fM,sl ai.K pa.2.2.1.fT.fL,sl bR pa.2.2.1.fT.cQ,sl ai.K pa.2.2.1.fP.fL,sl (bp .i64) pa.2.2.1.fP.cQ,sl ig.K pa.2.2.1.fL,vI pa.2.2.1.aP],ay ba 30 [eq gb.1.1,eq gb.2.1.1,eq gb.2.2.1.1,eq gb.2.2.2.1.1,eq gb.2.2.2.2.1],aH.O gb.1 pa.2.2.2.1,gW.O gb.2.1 pa.2.2.2.2.1,bH.O gb.2.2.1 pa.2.2.2.2.2.1,bM.O gb.2.2.2.1 pa.2.2.2.2.2.2.1,bK.O gb.2.2.2.2 pa.2.2.2.2.2.2.2,lax]++F) (fun pa H=>?_) (fun H=>?_)
 rotate_left
 ·
  refine so<|WP.block<|ws 8 [0,1,2,3,4,5,6,7] 0 ?_
  refine lp (fun j_ (pc:Int×dE×aH×gW×bH×bM×bK)=>aA.l4 k a2 j_ pc.1 pc.2.1 pc.2.2.1 pc.2.2.2.1 pc.2.2.2.2.1 pc.2.2.2.2.2.1 pc.2.2.2.2.2.2) (0,(⟨tc.2.1.fV,tc.2.1.fM,tc.2.1.fT,tc.2.1.fP,tc.2.1.fL,tc.2.1.aP⟩:dE),tc.1.cK,tc.1.bu,tc.1.aW,tc.1.aY,tc.1.gG) H (fun pc=>[(2,sl ai.K a2),(3,vI a3),(9,bO ba),(10,bO bc),(12,vI pc.1)]) (fun pc=>[ay bc 43 [sl aF.K pc.2.1.fV.fD,sl MK.K pc.2.1.fM,sl ai.K pc.2.1.fT.fL,sl bR pc.2.1.fT.cQ,sl ai.K pc.2.1.fP.fL,sl (bp .i64) pc.2.1.fP.cQ,sl ig.K pc.2.1.fL,vI pc.2.1.aP],ay ba 30 [eq gb.1.1,eq gb.2.1.1,eq gb.2.2.1.1,eq gb.2.2.2.1.1,eq gb.2.2.2.2.1],aH.O gb.1 pc.2.2.1,gW.O gb.2.1 pc.2.2.2.1,bH.O gb.2.2.1 pc.2.2.2.2.1,bM.O gb.2.2.2.1 pc.2.2.2.2.2.1,bK.O gb.2.2.2.2 pc.2.2.2.2.2.2,lax]++F) ?_
  rintro j_ ⟨xa,xb,xc,xd,xe,xf,xg⟩ H
  rcases j_ with _ | ja
  ·
   exact (aZ.no H).elim
  try dsimp only at H
  rw [aA.l4] at H
  refine WP.seq<|wr 8 0<|go 2<|Dv.jN Q T Q fF<|gp 2 ?_
  rcases bm H with ⟨cc,H⟩ | ⟨cc,H⟩
  ·
   refine sh 36 cc ?_
   refine sh 37 cc ?_
   refine go 3<|WP.cond Q nofun (fun _=>?_)
   refine WP.exit ?_
   have H:=H.out
   exact jn (xa,false,(⟨xb.fV,xb.fM,xb.fT,xb.fP,xb.fL,xb.aP⟩:dE),xc,xd,xe,xf,xg) H
  refine sh 36 cc ?_
  refine sh 37 cc ?_
  refine go 3<|ce H ?_ ?_ <;> intro H
  rotate_left
  ·
   refine WP.exit ?_
   have H:=H.out
   exact jn (xa,decide (xa<10),(⟨xb.fV,xb.fM,xb.fT,xb.fP,xb.fL,xb.aP⟩:dE),xc,xd,xe,xf,xg) H
  refine WP.skip<|WP.seq<|WP.block<|WP.seq<|WP.dgf (kf:=11) mX [(0,false),(1,false),(2,false),(3,false),(4,false),(5,false),(6,false),(7,true),(8,false),(9,false),(10,false)] [(12,true),(13,false)] Q kr<|gl 4 [1,0]<|gr H fun gi H=>Dv.kg Q T Q Q fF ir iW gi.1 gi.2<|oz Q T Q vP Q<|el H fun te had H=>cl Q (cL 12) Q (kK.c had)<|Dv.float ?_ (fun hk_=>?_)
  ·
   refine Cg Q T EY pU (fun bd=>?_)
   refine el H fun tg hae H=>cx 9 [8,3,4,5,6,7,0,1,2] (cL 11) (mg.c hae (p0_0:=gb.1) (p0_1:=gb.2.1) (p0_2:=gb.2.2.1) (p0_3:=gb.2.2.2.1) (p0_4:=gb.2.2.2.2)) pC fun _ _=>?_
   refine go 1<|eD Q T Q Q<|eD Q T Q Q<|sx 6 Q T Q Q cA H8 Q Q Q pD ?_
   refine go 1<|WP.seq<|so<|ce H ?_ ?_ <;> intro H
   ·
    refine sp ?_
    have H:=H.fW
    cases H.out; exact et () 9 [1,2,3,4,5,6,7,8,0] 8
   refine WP.skip<|rg 2 2<|gl 1 [6]<|sy 7 ?_
   refine .fin<|rg 3 0<|go 3<|ns 9 [6,7,8,1,2,3,4,5,0] 1 ?_
   exact bk ja (ax (xa+1),(⟨tg.1.fV,tg.1.fM,tg.1.fT,tg.1.fP,tg.1.fL,tg.1.aP⟩:dE),tg.2.2.cK,tg.2.2.bu,tg.2.2.aW,tg.2.2.aY,tg.2.2.gG) H
  refine el H fun tj haf H=>cx 8 [7,2,3,4,5,6,0,1] (cL 11) (mg.c haf (p0_0:=gb.1) (p0_1:=gb.2.1) (p0_2:=gb.2.2.1) (p0_3:=gb.2.2.2.1) (p0_4:=gb.2.2.2.2)) pC fun _ _=>?_
  refine go 1<|eD Q T Q Q<|eD Q T Q Q<|.fin<|Cg Q T EY pU (fun be=>?_)
  refine sx 0 Q T Q Q cA H8 Q Q Q pD ?_
  refine go 1<|WP.seq<|so<|ce H ?_ ?_ <;> intro H
  ·
   refine sp ?_
   have H:=H.fW
   cases H.out; exact et () 9 [0,2,3,4,5,6,7,8,1] 8
  refine WP.skip<|rg 2 2<|gl 1 [0]<|sy 7 ?_
  refine .fin<|rg 3 0<|go 3<|ns 9 [0,7,8,2,3,4,5,6,1] 1 ?_
  exact bk ja (ax (xa+1),(⟨tj.1.fV,tj.1.fM,tj.1.fT,tj.1.fP,tj.1.fL,tj.1.aP⟩:dE),tj.2.2.cK,tj.2.2.bu,tj.2.2.aW,tj.2.2.aY,tj.2.2.gG) H
 refine wr 3 0<|go 1<|el H fun tm hag H=>cl Q (cL 13) Q (gQ.c hag)<|go 1<|wr 9 196<|gl 2 [1]<|el H fun tn hah H=>cx 8 [2,3,4,5,6,0,1,7] (cL 14) (sync_Make.c hah (p0_0:=gb.1) (p0_1:=gb.2.1) (p0_2:=gb.2.2.1) (p0_3:=gb.2.2.2.1) (p0_4:=gb.2.2.2.2)) nofun fun _ _=>?_
 refine go 1<|eD Q T Q Q<|eD Q T Q Q<|al Q T JI nofun fun bg=>sy 0 ?_
 refine go 1<|WP.kN H id (fun pe=>[(10,bO bc),(15,vS tm),(16,bO bg),(17,vI tn.2)]) (fun pe=>[ay bg 59 (tJ.enc tn.1),ay bc 43 [sl aF.K pa.2.2.1.fV.fD,sl MK.K pa.2.2.1.fM,sl ai.K pa.2.2.1.fT.fL,sl bR pa.2.2.1.fT.cQ,sl ai.K pa.2.2.1.fP.fL,sl (bp .i64) pa.2.2.1.fP.cQ,sl ig.K pa.2.2.1.fL,vI pa.2.2.1.aP],ay ba 30 [eq gb.1.1,eq gb.2.1.1,eq gb.2.2.1.1,eq gb.2.2.2.1.1,eq gb.2.2.2.2.1],aH.O gb.1 pa.2.2.2.1,gW.O gb.2.1 pa.2.2.2.2.1,bH.O gb.2.2.1 pa.2.2.2.2.2.1,bM.O gb.2.2.2.1 pa.2.2.2.2.2.2.1,bK.O gb.2.2.2.2 pa.2.2.2.2.2.2.2,lax]++F) (fun pe H=>?_) (fun H=>?_)
 rotate_left
 ·
  refine so<|WP.block<|ws 9 [0,6,7,1,2,3,4,5,8] 0 ?_
  refine lp (fun j_ (pg:Int)=>aA.l3 k pa tm tn j_ pg) 0 H (fun pg=>[(10,bO bc),(15,vS tm),(16,bO bg),(17,vI tn.2),(18,vI pg)]) (fun pg=>[ay bg 59 (tJ.enc tn.1),ay bc 43 [sl aF.K pa.2.2.1.fV.fD,sl MK.K pa.2.2.1.fM,sl ai.K pa.2.2.1.fT.fL,sl bR pa.2.2.1.fT.cQ,sl ai.K pa.2.2.1.fP.fL,sl (bp .i64) pa.2.2.1.fP.cQ,sl ig.K pa.2.2.1.fL,vI pa.2.2.1.aP],ay ba 30 [eq gb.1.1,eq gb.2.1.1,eq gb.2.2.1.1,eq gb.2.2.2.1.1,eq gb.2.2.2.2.1],aH.O gb.1 pa.2.2.2.1,gW.O gb.2.1 pa.2.2.2.2.1,bH.O gb.2.2.1 pa.2.2.2.2.2.1,bM.O gb.2.2.2.1 pa.2.2.2.2.2.2.1,bK.O gb.2.2.2.2 pa.2.2.2.2.2.2.2,lax]++F) ?_
  rintro j_ xi H
  rcases j_ with _ | jc
  ·
   exact (aZ.no H).elim
  try dsimp only at H
  rw [aA.l3] at H
  refine WP.seq<|wr 5 0<|gl 3 [0]<|Dv.jN Q T Q Ky<|go 1<|ce H ?_ ?_ <;> intro H
  rotate_left
  ·
   refine WP.exit ?_
   have H:=H.out
   exact jn (xi,decide (xi<(tn.1.bu.length:Int))) H
  refine WP.skip<|WP.seq<|WP.block<|wr 7 96<|gl 3 [0]<|gr H fun gj H=>Dv.kg Q T Q Q Ky CP DS gj.1 gj.2<|oz Q T Q sg91 Q<|al Q T Ki nofun fun bh=>sy 0 ?_
  refine .fin<|wr 20 0<|gl 6 [2,0]<|el H fun tp hai H=>cl Q (cL 27) Q (du.c hai)<|gp 2 ?_
  rcases bm H with ⟨cg,H⟩ | ⟨cg,H⟩
  rotate_left
  ·
   refine sh 84 cg ?_
   refine sh 85 cg ?_
   refine go 11<|WP.cond Q (fun _=>?_) nofun
   refine sp ?_
   have H:=H.fW
   cases H.out; exact et () 10 [0,1,2,3,4,5,6,7,8,9] 9
  refine sh 84 cg ?_
  refine sh 85 cg ?_
  refine kW 4 [0] ?_
  rcases bm H with ⟨ci,H⟩ | ⟨ci,H⟩
  ·
   refine sh 88 ci ?_
   refine sh 89 ci ?_
   refine go 7<|WP.cond Q nofun (fun _=>?_)
   refine WP.skip<|rg 3 0<|go 3<|ns 10 [0,1,2,3,4,5,6,7,8,9] 1 ?_
   exact bk jc (ax (xi+1)) H
  refine sh 88 ci ?_
  refine sh 89 ci ?_
  refine gl 7 [0]<|ce H ?_ ?_ <;> intro H
  ·
   refine sp ?_
   have H:=H.fW
   cases H.out; exact et () 10 [0,1,2,3,4,5,6,7,8,9] 9
  refine WP.skip<|rg 3 0<|go 3<|ns 10 [0,1,2,3,4,5,6,7,8,9] 1 ?_
  exact bk jc (ax (xi+1)) H
 refine WP.kN H id (fun ph=>[(10,bO bc),(15,vS tm),(16,bO bg),(17,vI tn.2)]) (fun ph=>[ay bg 59 (tJ.enc tn.1),ay bc 43 [sl aF.K pa.2.2.1.fV.fD,sl MK.K pa.2.2.1.fM,sl ai.K pa.2.2.1.fT.fL,sl bR pa.2.2.1.fT.cQ,sl ai.K pa.2.2.1.fP.fL,sl (bp .i64) pa.2.2.1.fP.cQ,sl ig.K pa.2.2.1.fL,vI pa.2.2.1.aP],ay ba 30 [eq gb.1.1,eq gb.2.1.1,eq gb.2.2.1.1,eq gb.2.2.2.1.1,eq gb.2.2.2.2.1],aH.O gb.1 pa.2.2.2.1,gW.O gb.2.1 pa.2.2.2.2.1,bH.O gb.2.2.1 pa.2.2.2.2.2.1,bM.O gb.2.2.2.1 pa.2.2.2.2.2.2.1,bK.O gb.2.2.2.2 pa.2.2.2.2.2.2.2,lax]++F) (fun ph H=>?_) (fun H=>?_)
 ·
  refine WP.kN H id (fun pi=>[(10,bO bc),(16,bO bg),(17,vI tn.2)]) (fun pi=>[ay bg 59 (tJ.enc tn.1),ay bc 43 [sl aF.K pa.2.2.1.fV.fD,sl MK.K pa.2.2.1.fM,sl ai.K pa.2.2.1.fT.fL,sl bR pa.2.2.1.fT.cQ,sl ai.K pa.2.2.1.fP.fL,sl (bp .i64) pa.2.2.1.fP.cQ,sl ig.K pa.2.2.1.fL,vI pa.2.2.1.aP],ay ba 30 [eq gb.1.1,eq gb.2.1.1,eq gb.2.2.1.1,eq gb.2.2.2.1.1,eq gb.2.2.2.2.1],aH.O gb.1 pa.2.2.2.1,gW.O gb.2.1 pa.2.2.2.2.1,bH.O gb.2.2.1 pa.2.2.2.2.2.1,bM.O gb.2.2.2.1 pa.2.2.2.2.2.2.1,bK.O gb.2.2.2.2 pa.2.2.2.2.2.2.2,lax]++F) (fun pi H=>?_) (fun H=>?_)
  ·
   refine wr 14 0<|gp 3 ?_
   rcases bm H with ⟨cj,H⟩ | ⟨cj,H⟩
   ·
    refine sh 164 cj ?_
    refine sh 165 cj ?_
    refine gq 11 ?_
    cases H.out; exact et () 9 [0,1,2,3,4,5,6,7,8] 8
   refine sh 164 cj ?_
   refine sh 165 cj ?_
   refine gl 4 [0,1]<|Dv.jN Q (gg Q) Q Ks<|gp 3 ?_
   rcases bm H with ⟨ck,H⟩ | ⟨ck,H⟩
   ·
    refine sh 171 ck ?_
    refine sh 172 ck ?_
    refine sh 173 ck ?_
    refine gq 3 ?_
    cases H.out; exact et () 9 [0,1,2,3,4,5,6,7,8] 8
   refine sh 171 ck ?_
   refine sh 172 ck ?_
   refine sh 173 ck ?_
   refine el H fun tq haj H=>o8 9 [8,0,1,2,3,4,5,6,7] (cL 22) (od.c haj) ?_
   refine gq 2 ?_
   cases H.out; exact et () 9 [0,1,2,3,4,5,6,7,8] 8
  refine so<|WP.block<|ws 9 [0,1,2,3,4,5,6,7,8] 0 ?_
  refine lp (fun j_ (pj:Int)=>aA.l0 k pa tm tn j_ pj) 0 H (fun pj=>[(10,bO bc),(15,vS tm),(16,bO bg),(17,vI tn.2),(22,vI pj)]) (fun pj=>[ay bg 59 (tJ.enc tn.1),ay bc 43 [sl aF.K pa.2.2.1.fV.fD,sl MK.K pa.2.2.1.fM,sl ai.K pa.2.2.1.fT.fL,sl bR pa.2.2.1.fT.cQ,sl ai.K pa.2.2.1.fP.fL,sl (bp .i64) pa.2.2.1.fP.cQ,sl ig.K pa.2.2.1.fL,vI pa.2.2.1.aP],ay ba 30 [eq gb.1.1,eq gb.2.1.1,eq gb.2.2.1.1,eq gb.2.2.2.1.1,eq gb.2.2.2.2.1],aH.O gb.1 pa.2.2.2.1,gW.O gb.2.1 pa.2.2.2.2.1,bH.O gb.2.2.1 pa.2.2.2.2.2.1,bM.O gb.2.2.2.1 pa.2.2.2.2.2.2.1,bK.O gb.2.2.2.2 pa.2.2.2.2.2.2.2,lax]++F) ?_
  rintro j_ xj H
  rcases j_ with _ | jd
  ·
   exact (aZ.no H).elim
  try dsimp only at H
  rw [aA.l0] at H
  refine WP.seq<|wr 5 0<|gl 3 [0]<|Dv.jN Q T Q KE<|go 1<|ce H ?_ ?_ <;> intro H
  rotate_left
  ·
   refine WP.exit ?_
   have H:=H.out
   exact jn (xj,decide (xj<(tn.1.nU.length:Int))) H
  refine WP.skip<|WP.seq<|WP.block<|wd mX 11 0<|gl 6 [1,0]<|gr H fun gk H=>Dv.kg Q T Q Q KE U96 c96 gk.1 gk.2<|fr Q T Q JY Q<|lM Q T Q o9 Q<|el H fun tu hak H=>cl Q (cL 28) Q (dt.c hak)<|go 1<|ce H ?_ ?_ <;> intro H
  rotate_left
  ·
   exact WP.skip<|rg 3 0<|go 3<|bk jd (ax (xj+1)) H
  refine sp ?_
  have H:=H.fW
  cases H.out; exact et () 9 [0,1,2,3,4,5,6,7,8] 8
 refine so<|WP.block<|ws 9 [0,1,2,3,4,5,6,7,8] 0 ?_
 refine lp (fun j_ (pn:Int)=>aA.l1 k pa tm tn j_ pn) 0 H (fun pn=>[(10,bO bc),(15,vS tm),(16,bO bg),(17,vI tn.2),(20,vI pn)]) (fun pn=>[ay bg 59 (tJ.enc tn.1),ay bc 43 [sl aF.K pa.2.2.1.fV.fD,sl MK.K pa.2.2.1.fM,sl ai.K pa.2.2.1.fT.fL,sl bR pa.2.2.1.fT.cQ,sl ai.K pa.2.2.1.fP.fL,sl (bp .i64) pa.2.2.1.fP.cQ,sl ig.K pa.2.2.1.fL,vI pa.2.2.1.aP],ay ba 30 [eq gb.1.1,eq gb.2.1.1,eq gb.2.2.1.1,eq gb.2.2.2.1.1,eq gb.2.2.2.2.1],aH.O gb.1 pa.2.2.2.1,gW.O gb.2.1 pa.2.2.2.2.1,bH.O gb.2.2.1 pa.2.2.2.2.2.1,bM.O gb.2.2.2.1 pa.2.2.2.2.2.2.1,bK.O gb.2.2.2.2 pa.2.2.2.2.2.2.2,lax]++F) ?_
 rintro j_ xk H
 rcases j_ with _ | je
 ·
  exact (aZ.no H).elim
 try dsimp only at H
 rw [aA.l1] at H
 refine WP.seq<|wr 5 0<|gl 3 [0]<|Dv.jN Q T Q IB<|go 1<|ce H ?_ ?_ <;> intro H
 rotate_left
 ·
  refine WP.exit ?_
  have H:=H.out
  exact jn (xk,decide (xk<(tn.1.aW.length:Int))) H
 refine WP.skip<|WP.kN H id (fun po=>[(10,bO bc),(15,vS tm),(16,bO bg),(17,vI tn.2),(20,vI xk)]) (fun po=>[ay bg 59 (tJ.enc tn.1),ay bc 43 [sl aF.K pa.2.2.1.fV.fD,sl MK.K pa.2.2.1.fM,sl ai.K pa.2.2.1.fT.fL,sl bR pa.2.2.1.fT.cQ,sl ai.K pa.2.2.1.fP.fL,sl (bp .i64) pa.2.2.1.fP.cQ,sl ig.K pa.2.2.1.fL,vI pa.2.2.1.aP],ay ba 30 [eq gb.1.1,eq gb.2.1.1,eq gb.2.2.1.1,eq gb.2.2.2.1.1,eq gb.2.2.2.2.1],aH.O gb.1 pa.2.2.2.1,gW.O gb.2.1 pa.2.2.2.2.1,bH.O gb.2.2.1 pa.2.2.2.2.2.1,bM.O gb.2.2.2.1 pa.2.2.2.2.2.2.1,bK.O gb.2.2.2.2 pa.2.2.2.2.2.2.2,lax]++F) (fun po H=>?_) (fun H=>?_)
 ·
  exact rg 3 0<|go 3<|bk je (ax (xk+1)) H
 refine WP.block<|WP.seq<|wd mX 11 0<|gl 5 [1,0]<|gr H fun gm H=>Dv.kg Q T Q Q IB I6 c94 gm.1 gm.2<|fr Q T Q EX Q<|lM Q T Q o9 Q<|go 1<|el H fun tw ham H=>cl Q (cL 27) Q (du.c ham)<|go 1<|ce H ?_ ?_ <;> intro H
 ·
  refine sp ?_
  have H:=H.fW
  have H:=H.fW
  cases H.out; exact et () 9 [0,1,2,3,4,5,6,7,8] 8
 refine WP.skip<|so<|WP.block<|ws 9 [0,1,2,3,4,5,6,7,8] 0 ?_
 refine lp (fun j_ (pq:Int)=>aA.l2 k pa tn xk tw j_ pq) 0 H (fun pq=>[(10,bO bc),(15,vS tm),(16,bO bg),(17,vI tn.2),(20,vI xk),(21,vI pq)]) (fun pq=>[ay bg 59 (tJ.enc tn.1),ay bc 43 [sl aF.K pa.2.2.1.fV.fD,sl MK.K pa.2.2.1.fM,sl ai.K pa.2.2.1.fT.fL,sl bR pa.2.2.1.fT.cQ,sl ai.K pa.2.2.1.fP.fL,sl (bp .i64) pa.2.2.1.fP.cQ,sl ig.K pa.2.2.1.fL,vI pa.2.2.1.aP],ay ba 30 [eq gb.1.1,eq gb.2.1.1,eq gb.2.2.1.1,eq gb.2.2.2.1.1,eq gb.2.2.2.2.1],aH.O gb.1 pa.2.2.2.1,gW.O gb.2.1 pa.2.2.2.2.1,bH.O gb.2.2.1 pa.2.2.2.2.2.1,bM.O gb.2.2.2.1 pa.2.2.2.2.2.2.1,bK.O gb.2.2.2.2 pa.2.2.2.2.2.2.2,lax]++F) ?_
 rintro j_ xn H
 rcases j_ with _ | jf
 ·
  exact (aZ.no H).elim
 try dsimp only at H
 rw [aA.l2] at H
 refine WP.seq<|wr 9 0<|gl 4 [0]<|gr H fun gn H=>Dv.kg Q T Q Q IB I6 c94 gn.1 gn.2<|fr Q T Q Ec Q<|lM Q T Q H3 Q<|Dv.jN Q T Q eh<|go 1<|ce H ?_ ?_ <;> intro H
 rotate_left
 ·
  refine WP.exit ?_
  have H:=H.out
  exact jn (xn,!tw,decide (xn<(((iF.K.at tn.1.aW xk).kT).length:Int))) H
 refine WP.skip<|WP.seq<|WP.block<|wd mX 19 0<|gl 5 [1,0]<|gr H fun gu H=>Dv.kg Q T Q Q IB I6 c94 gu.1 gu.2<|fr Q T Q EX Q<|lM Q T Q o9 Q<|gl 3 [0]<|gr H fun gv H=>Dv.kg Q T Q Q IB I6 c94 gv.1 gv.2<|fr Q T Q Ec Q<|lM Q T Q H3 Q<|go 1<|gr H fun gw H=>Dv.kg Q T Q Q eh U9 c9 gw.1 gw.2<|lM Q T Q o9 Q<|el H fun tx han H=>cl Q (cL 27) Q (du.c han)<|go 1<|ce H ?_ ?_ <;> intro H
 rotate_left
 ·
  exact WP.skip<|rg 3 0<|go 3<|bk jf (ax (xn+1)) H
 refine sp ?_
 have H:=H.fW
 have H:=H.fW
 cases H.out; exact et () 9 [0,1,2,3,4,5,6,7,8] 8
end Go.Proofs.YtfknmdelgepbjaaGreatDoor
