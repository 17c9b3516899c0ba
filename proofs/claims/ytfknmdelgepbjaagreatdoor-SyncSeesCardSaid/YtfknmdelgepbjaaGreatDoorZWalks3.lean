import Derived.Test.YtfknmdelgepbjaaGreatDoorZTab
import Derived.Test.YtfknmdelgepbjaaGreatDoorZWalks2
import Derived.Test.YtfknmdelgepbjaaGreatDoorConQ
import Derived.Test.YtfknmdelgepbjaaGreatDoorConA6
import Derived.Test.YtfknmdelgepbjaaGreatDoorConC4
import Derived.Lib.Join
import Derived.Eval
set_option linter.all false
set_option autoImplicit true
set_option maxRecDepth 10000
set_option maxHeartbeats 20000000
namespace Go.Proofs.YtfknmdelgepbjaaGreatDoor
open Go Go.Sp Tryz
theorem mg.c {p0_0 p0_1 p0_2 p0_3 p0_4:OV} (h:mg.f k a0 a1 a2=some r):Tr prog 11 [agg [eq p0_0.1,eq p0_1.1,eq p0_2.1,eq p0_3.1,eq p0_4.1],agg (dE.enc a1),agg (ai.enc a2)] [lax,aH.O p0_0 a0.cK,gW.O p0_1 a0.bu,bH.O p0_2 a0.aW,bM.O p0_3 a0.aY,bK.O p0_4 a0.gG] (γ:=Unit) (fun _=>True) (fun g=>kR [agg (dE.enc r.1),vB r.2.1]) (fun g=>[lax,aH.O p0_0 r.2.2.cK,gW.O p0_1 r.2.2.bu,bH.O p0_2 r.2.2.aW,bM.O p0_3 r.2.2.aY,bK.O p0_4 r.2.2.gG]):=by
 refine tf func11 h fun R0 F H=>?_
 refine wr 5 15<|Dv.box Q T Q cA nofun fun ba=>Dv.box Q T Q cA nofun fun bc=>Dv.box Q T Q cA nofun fun bd=>al Q T EY nofun fun be=>go 1<|wr 1 1<|al Q T zc116 nofun fun bg=>.fin<|so<|WP.kN H id (fun pa=>[(3,bO ba),(4,bO bc),(6,bO be),(8,bO bg),(9,vS pa.1)]) (fun pa=>[ay bg 116 [vI pa.2.1.aE,vS pa.2.1.fK.aa,vS pa.2.1.fK.ak,vS pa.2.1.fK.ag,vB pa.2.1.fK.au,vS pa.2.1.jG],ay be 43 [dY,dY,dY,dY,dY,dY,dY,vI 0],ay bd 52 (ai.enc a2),ay bc 43 [sl aF.K pa.2.2.1.fV.fD,sl MK.K pa.2.2.1.fM,sl ai.K pa.2.2.1.fT.fL,sl bR pa.2.2.1.fT.cQ,sl ai.K pa.2.2.1.fP.fL,sl (bp .i64) pa.2.2.1.fP.cQ,sl ig.K pa.2.2.1.fL,vI pa.2.2.1.aP],ay ba 30 [eq p0_0.1,eq p0_1.1,eq p0_2.1,eq p0_3.1,eq p0_4.1],gW.O p0_1 pa.2.2.2.1,aH.O p0_0 a0.cK,lax,bH.O p0_2 pa.2.2.2.2.1,bM.O p0_3 pa.2.2.2.2.2,bK.O p0_4 a0.gG]++F) (fun pa H=>?_) (fun H=>?_)
 ·
  refine so<|wr 5 8<|gl 3 [3]<|vg (eX ig.K none) fun _ _=>?_
  refine gr H fun ga H=>ap ig.K 0 pa.2.2.1.fL bY Ks (.inr ⟨_,Ks⟩) D7 ga nofun fun va=>?_
  refine go 1<|wr 6 40<|gl 2 [1]<|Dv.lit ig.K ([(⟨pa.2.1.aE,pa.2.1.fK,pa.2.1.jG⟩:ig)]:List ig) (css:=[[vI pa.2.1.aE,vS pa.2.1.fK.aa,vS pa.2.1.fK.ak,vS pa.2.1.fK.ag,vB pa.2.1.fK.au,vS pa.2.1.jG]]) Q T Ks HS Hy z116 Q dc dc Q ⟨(bn (an (aj Q) (an (aj Q) (an (aj Q) (an (aj Q) (an (aj Q) (an (aj Q) b8))))))),T⟩ Q Q Q<|gr H fun gb H=>ap ig.K 0 ([(⟨pa.2.1.aE,pa.2.1.fK,pa.2.1.jG⟩:ig)]:List ig) bY Ks (.inr ⟨_,Ks⟩) D7 gb nofun fun vb=>?_
  refine go 1<|sx 4 Q T Q Q (cells_one bQ) sz41 Q Q Q nofun ?_
  refine .fin<|wr 9 8<|gl 3 [5]<|el H fun ta haa H=>cx 12 [11,0,1,2,3,4,5,6,7,8,9,10] (cL 48) (ic.c haa (p0_:=p0_4)) nofun fun _ _=>?_
  refine go 1<|eD Q T Q Q<|eD Q T Q Q<|go 2<|wd mX 11 512<|kW 4 [5] ?_
  cases cc:(ta.2.1==0)
  ·
   have H:=H.cf cc
   refine go 5<|sx 3 Q T Q Q cA H8 Q Q Q pD ?_
   refine go 1<|WP.gh (eF (E':=[(6,bO be),(7,vB false)]) (l':=[bK.O p0_4 ta.2.2,ay bg 116 [vI pa.2.1.aE,vS pa.2.1.fK.aa,vS pa.2.1.fK.ak,vS pa.2.1.fK.ag,vB pa.2.1.fK.au,vS pa.2.1.jG],ay be 43 [sl aF.K pa.2.2.1.fV.fD,sl MK.K pa.2.2.1.fM,sl ai.K pa.2.2.1.fT.fL,sl bR pa.2.2.1.fT.cQ,sl ai.K pa.2.2.1.fP.fL,sl (bp .i64) pa.2.2.1.fP.cQ,sl ig.K ((([]:List ig)++pa.2.2.1.fL)++([(⟨pa.2.1.aE,pa.2.1.fK,pa.2.1.jG⟩:ig)]:List ig)),vI pa.2.2.1.aP],ay bd 52 (ai.enc a2),ay bc 43 [sl aF.K pa.2.2.1.fV.fD,sl MK.K pa.2.2.1.fM,sl ai.K pa.2.2.1.fT.fL,sl bR pa.2.2.1.fT.cQ,sl ai.K pa.2.2.1.fP.fL,sl (bp .i64) pa.2.2.1.fP.cQ,sl ig.K ((([]:List ig)++pa.2.2.1.fL)++([(⟨pa.2.1.aE,pa.2.1.fK,pa.2.1.jG⟩:ig)]:List ig)),vI pa.2.2.1.aP],ay ba 30 [eq p0_0.1,eq p0_1.1,eq p0_2.1,eq p0_3.1,eq p0_4.1],gW.O p0_1 pa.2.2.2.1,aH.O p0_0 a0.cK,lax,bH.O p0_2 pa.2.2.2.2.1,bM.O p0_3 pa.2.2.2.2.2]++F) 1 Q (ah Q ao (ah Q ao cT)) (bP (.cons av (.cons av (.cons (cJ (.cons ao (.cons ao (.cons ao (.cons ao (.cons ao (.cons ao (.cons dm (.cons ao .nil))))))))) (.cons av (.cons (cJ (.cons ao (.cons ao (.cons ao (.cons ao (.cons ao (.cons ao (.cons dm (.cons ao .nil))))))))) (.cons av (.cons av (.cons av (.cons av (.cons av (.cons av .nil))))))))))) fun _=>av)) (fun _ _=>?_)
   cases H.out; exact rt i2 Q () 11 [1,2,3,4,5,8,7,6,9,10,0] 5 (.cons (aw Q AL Q En (ab 2 Q) Q) (.cons (aG Q) .nil))
  have H:=H.ct cc
  refine gl 2 [2]<|el H fun tc hac H=>Dv.call Q (gg Q) (cL 49) Q (kz.c hac)<|go 2<|sx 3 Q T Q Q cA H8 Q Q Q pD ?_
  refine go 1<|WP.gh (eF (E':=[(6,bO be),(7,vB (decide (pa.1=tc)))]) (l':=[bK.O p0_4 ta.2.2,ay bg 116 [vI pa.2.1.aE,vS pa.2.1.fK.aa,vS pa.2.1.fK.ak,vS pa.2.1.fK.ag,vB pa.2.1.fK.au,vS pa.2.1.jG],ay be 43 [sl aF.K pa.2.2.1.fV.fD,sl MK.K pa.2.2.1.fM,sl ai.K pa.2.2.1.fT.fL,sl bR pa.2.2.1.fT.cQ,sl ai.K pa.2.2.1.fP.fL,sl (bp .i64) pa.2.2.1.fP.cQ,sl ig.K ((([]:List ig)++pa.2.2.1.fL)++([(⟨pa.2.1.aE,pa.2.1.fK,pa.2.1.jG⟩:ig)]:List ig)),vI pa.2.2.1.aP],ay bd 52 (ai.enc a2),ay bc 43 [sl aF.K pa.2.2.1.fV.fD,sl MK.K pa.2.2.1.fM,sl ai.K pa.2.2.1.fT.fL,sl bR pa.2.2.1.fT.cQ,sl ai.K pa.2.2.1.fP.fL,sl (bp .i64) pa.2.2.1.fP.cQ,sl ig.K ((([]:List ig)++pa.2.2.1.fL)++([(⟨pa.2.1.aE,pa.2.1.fK,pa.2.1.jG⟩:ig)]:List ig)),vI pa.2.2.1.aP],ay ba 30 [eq p0_0.1,eq p0_1.1,eq p0_2.1,eq p0_3.1,eq p0_4.1],gW.O p0_1 pa.2.2.2.1,aH.O p0_0 a0.cK,lax,bH.O p0_2 pa.2.2.2.2.1,bM.O p0_3 pa.2.2.2.2.2]++F) 1 Q (ah Q ao (ah Q ao cT)) (bP (.cons av (.cons av (.cons (cJ (.cons ao (.cons ao (.cons ao (.cons ao (.cons ao (.cons ao (.cons dm (.cons ao .nil))))))))) (.cons av (.cons (cJ (.cons ao (.cons ao (.cons ao (.cons ao (.cons ao (.cons ao (.cons dm (.cons ao .nil))))))))) (.cons av (.cons av (.cons av (.cons av (.cons av (.cons av .nil))))))))))) fun _=>av)) (fun _ _=>?_)
  cases H.out; exact rt i2 Q () 11 [1,2,3,4,5,8,7,6,9,10,0] 5 (.cons (aw Q AL Q En (ab 2 Q) Q) (.cons (aG Q) .nil))
 refine sf [2]<|WP.block<|so<|ce H ?_ ?_ <;> intro H
 ·
  refine wr 16 12288<|gl 2 [3]<|Dv.lx (qs:=[vI 8,dY,vI 0]) (css:=[[vI 8]]) Q T AO FU G8 Q ⟨(cells_one (aj Q)),T⟩ Q Q<|Dv.lx (qs:=[sl MK.K a1.fM,vI 8,dY,vI 0]) (css:=[[sl MK.K a1.fM],[vI 8,dY,vI 0]]) Q T Ab D9 HP Q ⟨(cells_one dQ),⟨(bn (an (aj Q) (an (aj Q) (an (aj Q) b8)))),T⟩⟩ Q Q<|gl 3 [3,2]<|el H fun te had H=>cl Q (cL 38) Q (Pt.jY (qx.c had) (.cons (nZ (.cons cG (.cons cG (.cons dD (.cons cG .nil))))) (.cons cG (.cons cG .nil))))<|go 1<|eD Q T Q Q<|eD Q T Q Q<|eD Q T Q Q<|al Q T Jc nofun fun bh=>sy 0 ?_
  refine go 2<|wr 4 8<|gl 3 [0]<|sx 4 Q T Q Q (cells_one dQ) sz34 Q Q Q nofun ?_
  refine .fin<|wr 11 32<|gl 5 [5,5,3]<|el H fun tg hae H=>cx 12 [8,7,0,1,2,3,4,5,6,9,10,11] (cL 39) (ie.c hae (p0_:=p0_1) (p1_:=p0_0)) nofun fun _ _=>?_
  refine go 1<|eD Q T Q Q<|eD Q T Q Q<|go 2<|WP.seq<|wr 8 0<|go 2<|n9 Q Q Q (yc U4)<|gp 1 ?_
  rcases bm H with ⟨cg,H⟩ | ⟨cg,H⟩
  rotate_left
  ·
   refine sh 85 cg ?_
   refine sh 86 cg ?_
   refine go 4<|WP.cond Q (fun _=>?_) nofun
   refine wr 3 2<|gl 1 [6]<|sy 4 ?_
   refine gq 1 ?_
   have H:=H.fW
   cases H.out; exact rt i2 Q () 12 [2,3,4,5,6,7,8,1,0,9,10,11] 6 (.cons (aw Q AL Q En (ab 4 Q) Q) (.cons (aG Q) .nil))
  refine sh 85 cg ?_
  refine sh 86 cg ?_
  refine go 4<|ce H ?_ ?_ <;> intro H
  ·
   refine wr 3 2<|gl 1 [6]<|sy 4 ?_
   refine gq 1 ?_
   have H:=H.fW
   cases H.out; exact rt i2 Q () 12 [2,3,4,5,6,7,8,1,0,9,10,11] 6 (.cons (aw Q AL Q En (ab 4 Q) Q) (.cons (aG Q) .nil))
  refine WP.skip<|wr 4 8<|gl 1 [5]<|el H fun tj haf H=>cl Q (cL 40) Q (pz.c haf)<|Dv.lx (qs:=[vI 1,vS tj.aa,vS tj.ak,vS tj.ag,vB tj.au,vS eE]) (css:=[[vI 1],bz.enc tj]) Q T HS Ei z116 Q ⟨(cells_one (aj Q)),⟨(bn (bz.K.one _)),T⟩⟩ Q Q<|sy 3 ?_
  refine .fin<|rg 4 0<|gl 2 [3]<|el H fun tm hag H=>o8 12 [8,0,1,2,3,4,5,6,7,9,10,11] (cL 41) (iz.c hag) ?_
  refine gq 1 ?_
  have H:=H.out
  refine ns 12 [2,3,4,5,6,7,0,1,8,9,10,11] 1 ?_
  exact jn (tm,(⟨1,tj,eE⟩:ig),(⟨a1.fV,te.1.fL,a1.fT,a1.fP,a1.fL,a1.aP⟩:dE),tg.2.2,a0.aW,a0.aY) H
 refine so<|ce H ?_ ?_ <;> intro H
 ·
  refine wr 12 768<|gl 3 [3,2]<|el H fun tn hah H=>cl Q (cL 42) Q (cU.c hah)<|go 1<|eD Q T Q Q<|eD Q T Q Q<|eD Q T Q Q<|al Q T J1 nofun fun bi=>sy 0 ?_
  refine go 2<|wr 3 4<|gl 2 [0]<|sy 4 ?_
  refine .fin<|wr 9 8<|gl 3 [5,3]<|el H fun tp hai H=>cx 12 [9,0,1,2,3,4,5,6,7,8,10,11] (cL 43) (fi.c hai (p0_:=p0_2)) nofun fun _ _=>?_
  refine go 1<|eD Q T Q Q<|eD Q T Q Q<|go 2<|WP.seq<|wr 3 0<|go 2<|n9 Q Q Q (yc U4)<|.fin<|ce H ?_ ?_ <;> intro H
  ·
   refine wr 3 2<|gl 1 [5]<|sy 3 ?_
   refine gq 1 ?_
   have H:=H.fW
   cases H.out; exact rt i2 Q () 12 [1,2,3,4,5,6,7,8,9,0,10,11] 6 (.cons (aw Q AL Q En (ab 3 Q) Q) (.cons (aG Q) .nil))
  refine WP.skip<|wr 4 8<|gl 2 [4]<|Dv.lx (qs:=[vI 2,vS eE,vS eE,vS eE,vB false,vS a2.aa]) (css:=[[vI 2],[vS a2.aa]]) Q T HS Ei z116 Q ⟨(cells_one (aj Q)),⟨(cells_one (aj Q)),T⟩⟩ Q Q<|sy 2 ?_
  refine .fin<|rg 4 0<|gl 2 [4]<|el H fun tq haj H=>cl Q (cL 44) Q (jt.c haj)<|gq 1 ?_
  have H:=H.out
  refine ns 12 [1,2,3,4,5,6,9,8,7,0,10,11] 1 ?_
  exact jn (tq,(⟨2,(⟨eE,eE,eE,false⟩:bz),a2.aa⟩:ig),(⟨a1.fV,a1.fM,tn.1,a1.fP,a1.fL,a1.aP⟩:dE),a0.bu,tp.2.2,a0.aY) H
 refine wr 12 768<|gl 3 [3,2]<|el H fun tu hak H=>cl Q (cL 45) Q (di.c hak)<|go 1<|eD Q T Q Q<|eD Q T Q Q<|eD Q T Q Q<|al Q T JT nofun fun bj=>sy 0 ?_
 refine go 2<|wr 3 4<|gl 2 [0]<|sy 4 ?_
 refine .fin<|wr 9 8<|gl 3 [5,3]<|el H fun tw ham H=>cx 12 [10,0,1,2,3,4,5,6,7,8,9,11] (cL 46) (eG.c ham (p0_:=p0_3)) nofun fun _ _=>?_
 refine go 1<|eD Q T Q Q<|eD Q T Q Q<|go 2<|WP.seq<|wr 3 0<|go 2<|n9 Q Q Q (yc U4)<|.fin<|ce H ?_ ?_ <;> intro H
 ·
  refine wr 3 2<|gl 1 [5]<|sy 3 ?_
  refine gq 1 ?_
  have H:=H.fW
  cases H.out; exact rt i2 Q () 12 [1,2,3,4,5,6,7,8,9,10,0,11] 6 (.cons (aw Q AL Q En (ab 3 Q) Q) (.cons (aG Q) .nil))
 refine WP.skip<|wr 4 8<|gl 2 [4]<|Dv.lx (qs:=[vI 3,vS eE,vS eE,vS eE,vB false,vS a2.ak]) (css:=[[vI 3],[vS a2.ak]]) Q T HS Ei z116 Q ⟨(cells_one (aj Q)),⟨(cells_one (aj Q)),T⟩⟩ Q Q<|sy 2 ?_
 refine .fin<|rg 4 0<|gl 2 [4]<|el H fun tx han H=>cl Q (cL 47) Q (jg.c han)<|gq 1 ?_
 have H:=H.out
 refine ns 12 [1,2,3,4,5,6,9,8,7,10,0,11] 1 ?_
 exact jn (tx,(⟨3,(⟨eE,eE,eE,false⟩:bz),a2.ak⟩:ig),(⟨a1.fV,a1.fM,a1.fT,tu.1,a1.fL,a1.aP⟩:dE),a0.bu,a0.aW,tw.2.2) H
theorem gA.c (h:gA.f k a0=some r):Pt prog 51 [vI a0] (vS r):=by
 refine pf func51 h fun R0 F H=>?_
 refine so<|wr 3 0<|go 1<|el H fun ta haa H=>cl Q (cL 10) Q (br.c haa)<|go 1<|WP.seq<|so<|ce H ?_ ?_ <;> intro H
 ·
  refine sp ?_
  cases H.out; exact ek 0
 refine WP.skip<|WP.seq<|so<|ce H ?_ ?_ <;> intro H
 ·
  refine sp ?_
  cases H.out; exact ek 0
 refine WP.skip<|wr 3 0<|go 1<|el H fun tc hac H=>cl Q (cL 50) Q (dq.c hac)<|gq 1 ?_
 cases H.out; exact ek 0
theorem kK.c (h:kK.f k a0=some r):Pt prog 12 [agg (ai.enc a0)] (agg (ai.enc r)):=by
 refine pf func12 h fun R0 F H=>?_
 refine wr 2 3<|Dv.box Q T Q cA nofun fun ba=>al Q T uC nofun fun bc=>.fin<|wd mX 16 49152<|gl 2 [1]<|el H fun ta haa H=>cl Q (cL 10) Q (br.c haa)<|gl 3 [1]<|el H fun tc hac H=>cl Q (cL 13) Q (gQ.c hac)<|gl 2 [1]<|el H fun te had H=>cl Q (cL 10) Q (br.c had)<|gl 2 [1]<|el H fun tg hae H=>cl Q (cL 10) Q (br.c hae)<|Dv.lx (qs:=[vI (ax (1+ta)),vS eE,vS tc,vS eE,vS eE,vB false,vB false,vI 0,vI 0,vI te,vI tg]) (css:=[[vI (ax (1+ta))],[vS tc],[vI te],[vI tg]]) Q T ir Bk uW Q ⟨(cells_one (aj Q)),⟨(cells_one (aj Q)),⟨(cells_one (aj Q)),⟨(cells_one (aj Q)),T⟩⟩⟩⟩ Q Q<|al Q T uC pD fun bd=>sv 0 ?_
 refine .fin<|WP.seq<|sf [0]<|WP.block<|so<|ce H ?_ ?_ <;> intro H
 ·
  refine wr 5 16<|gl 2 [2]<|el H fun tj haf H=>cl Q (cL 18) Q (eS.c haf)<|go 1<|sy 0 ?_
  refine .fin<|wd mX 10 512<|gl 2 [2]<|Dv.lens Q T Q U9<|gl 2 [2]<|el H fun tm hag H=>cl Q (cL 10) Q (br.c hag)<|go 1<|el H fun tn hah H=>cl Q (cL 50) Q (dq.c hah)<|go 1<|sv 0 ?_
  refine .fin<|wr 6 32<|gl 2 [2]<|Dv.lens Q T Q U9<|el H fun tp hai H=>cl Q (cL 51) Q (gA.c hai)<|go 1<|sy 0 ?_
  refine .fin<|rg 4 8<|gl 3 [2]<|sy 0 ?_
  refine .fin<|wr 2 2<|gl 1 [0]<|sy 1 ?_
  refine .fin ?_
  cases H.out; exact r3 i2 Q (.cons (aw Q ir Q iW (ab 1 Q) Q) .nil)
 refine so<|ce H ?_ ?_ <;> intro H
 rotate_left
 ·
  refine rg 5 16<|gl 2 [2]<|el H fun tq haj H=>cl Q (cL 10) Q (br.c haj)<|go 1<|sy 0 ?_
  refine .fin<|wr 2 2<|gl 1 [0]<|sy 1 ?_
  refine .fin ?_
  cases H.out; exact r3 i2 Q (.cons (aw Q ir Q iW (ab 1 Q) Q) .nil)
 refine wr 5 16<|gl 2 [2]<|el H fun tu hak H=>cl Q (cL 18) Q (eS.c hak)<|go 1<|sy 0 ?_
 refine .fin<|wr 4 8<|gl 3 [2]<|sy 0 ?_
 refine .fin<|sf [2]<|ce H ?_ ?_ <;> intro H
 rotate_left
 ·
  refine WP.skip<|wr 2 2<|gl 1 [0]<|sy 1 ?_
  refine .fin ?_
  cases H.out; exact r3 i2 Q (.cons (aw Q ir Q iW (ab 1 Q) Q) .nil)
 refine rg 6 32<|gl 2 [2]<|el H fun tw ham H=>cl Q (cL 10) Q (br.c ham)<|go 2<|sy 0 ?_
 refine .fin<|wr 2 2<|gl 1 [0]<|sy 1 ?_
 refine .fin ?_
 cases H.out; exact r3 i2 Q (.cons (aw Q ir Q iW (ab 1 Q) Q) .nil)
theorem slices_DeleteFunc_string_xo.c {X1_:As} {p0_:OV} (h:slices_DeleteFunc_string_xo.f k a0 a1=some r):Tr prog 71 [eq p0_.1,fE X1_ a1] [own aC p0_.1 a0,X1_] (γ:=OV) (fun _=>True) (fun g=>eq g.1) (fun g=>[X1_,own aC g.1 r]):=by
 refine tf func71 h fun R0 F H=>?_
 refine so<|wr 4 0<|go 2<|el H fun ta haa H=>o8 2 [0,1] (cL 137) (aB.c haa (p0_:=p0_) (X1_:=X1_)) ?_
 refine go 1<|WP.seq<|so<|ce H ?_ ?_ <;> intro H
 ·
  refine sp ?_
  cases H.out; exact et p0_ 2 [1,0] 0
 refine WP.skip<|WP.iQ H id (fun pa=>[(0,eq p0_.1),(5,vI pa.1)]) (fun pa=>[own aC p0_.1 pa.2.2.2,X1_]++F) (fun pa H=>?_) (fun H=>?_)
 ·
  refine wr 4 8<|go 2<|gr H fun ga H=>vg (z8 0 Q (List.length_pos_iff.1 (Nat.lt_of_le_of_lt (Nat.zero_le _) ga.2))) fun gb hac=>?_
  refine Dv.vN (o':=gb.2.1+pa.1.toNat*aC.sz) (m':=pa.2.2.2.length-pa.1.toNat) (c':=gb.2.2-pa.1.toNat) Q T ((show opv _ _=some (eq p0_.1) from Q).trans (congrArg (fun z=>some (eq z)) hac.1)) eh U9 c9 (fa Q ga.1) dG (Nat.le_of_lt ga.2) hac.2 (.inl (Nat.lt_of_lt_of_le ga.2 hac.2)) Q Q Q<|Dv.clrw (jj:=0) eE Q T Q eh z9 Q Q (fun u hu=>by simp [Value.cells] at hu; subst hu; rfl) hac.1 Q ga.2 Q nofun<|.fin<|wr 4 4<|go 2<|gr H fun gi H=>Dv.slo (jj:=0) Q T Q Q eh U9 c9 dG (fa Q gi.1) (.inl Q) gi.2.1 gi.2.2 nofun (fun va=>?_)
  refine gq 1 ?_
  cases H.out; exact et va 2 [1,0] 0
 refine so<|WP.block<|ws 2 [0,1] 0 ?_
 refine lp (fun j_ (pc:Int×Int×(List BA))=>slices_DeleteFunc_string_xo.l0 k a1 j_ pc.1 pc.2.1 pc.2.2) (ta,ax (ta+1),a0) H (fun pc=>[(0,eq p0_.1),(1,fE X1_ a1),(5,vI pc.1),(6,vI pc.2.1)]) (fun pc=>[own aC p0_.1 pc.2.2,X1_]++F) ?_
 rintro j_ ⟨xa,xb,xc⟩ H
 rcases j_ with _ | ja
 ·
  exact (aZ.no H).elim
 try dsimp only at H
 rw [slices_DeleteFunc_string_xo.l0] at H
 refine WP.seq<|wr 4 0<|go 2<|Dv.kG Q T Q (ab 0 Q) eh<|go 1<|ce H ?_ ?_ <;> intro H
 rotate_left
 ·
  refine WP.exit ?_
  have H:=H.out
  exact jn (xa,xb,decide (xb<(xc.length:Int)),xc) H
 refine WP.skip<|WP.seq<|WP.block<|wr 5 0<|go 2<|gr H fun gj H=>?_
 have had:xb.toNat<xc.length:=bC gj
 refine Dv.kF Q T Q (ab 0 Q) Q eh U9 c9 gj.1 gj.2<|Dv.oH (j:=xb.toNat) (f:=0) (p:=vS (xc.getD xb.toNat default)) Q T Q (ab 0 Q) had U9 Q Q<|go 1<|wr 4 0<|go 2<|el H fun tc hae H=>Dv.A9 (ret:=vB tc) (X:=X1_) (F:=[own aC p0_.1 xc]++F) Q T Q Q ⟨_,_,hae,Q,Q⟩ (mc (L:=[own aC p0_.1 xc,X1_]) (F:=F) [1,0] Q Q Q)<|go 1<|ce H ?_ ?_ <;> intro H
 rotate_left
 ·
  exact WP.skip<|rg 3 0<|go 3<|bk ja (xa,ax (xb+1),xc) H
 refine wr 5 16<|go 3<|gr H fun gk H=>?_
 have haf:xa.toNat<xc.length:=bC gk
 exact Dv.kF Q T Q (ab 0 Q) Q eh U9 c9 gk.1 gk.2<|Dv.Iy (j:=xa.toNat) (f:=0) (jj:=0) (xc.getD xb.toNat default) Q T Q Q (cells_one (aj Q)) U9 c9 Q Q haf (Nat.le_of_ble_eq_true Q) Q nofun<|.fin<|rg 3 0<|go 3<|rg 3 0<|go 3<|bk ja (ax (xa+1),ax (xb+1),xc.set xa.toNat (xc.getD xb.toNat default)) H
theorem eH.c {v0_0 v0_1:OV} {b0_:Nat} (h:eH.f k a0 a1 a2 a3=some r):Tr prog 138 [bO b0_,vS a1,vS a2,vI a3] [ay b0_ 190 [eq v0_0.1,eq v0_1.1],own ai.K v0_0.1 a0.fl] (γ:=Unit) (fun _=>True) (fun g=>vB r) (fun g=>[ay b0_ 190 [eq v0_0.1,eq v0_1.1],own ai.K v0_0.1 a0.fl]):=by
 refine tf func138 h fun R0 F H=>?_
 refine so<|wr 10 0<|go 3<|Dv.lx (qs:=[vI 0,vS a1,vS a2,vS eE,vS eE,vB false,vB false,vI 0,vI 0,vI 0,vI 0]) (css:=[[vS a1],[vS a2]]) Q T ir Bk uW Q ⟨(cells_one (aj Q)),⟨(cells_one (aj Q)),T⟩⟩ Q Q<|el H fun ta haa H=>o8 2 [0,1] (cL 106) (dW.c haa (b0_:=b0_) (v0_0:=v0_0) (v0_1:=v0_1)) ?_
 refine go 1<|eD Q T Q Q<|eD Q T Q Q<|go 2<|wr 24 0<|gp 2 ?_
 cases cc:ta.2
 ·
  have H:=H.cf cc
  refine gq 22 ?_
  cases H.out; exact et () 2 [0,1] 0
 have H:=H.ct cc
 refine gl 5 [0]<|gr H fun ga H=>?_
 have hac:ta.1.toNat<a0.fl.length:=bC ga
 refine Dv.kF Q (gg Q) Q (ab 1 Q) Q fF ir iW ga.1 ga.2<|fw Q (gg Q) Q JF<|Dv.oH (j:=ta.1.toNat) (f:=6) (p:=vB ((a0.fl.getD ta.1.toNat default).jX)) Q (gg Q) Q (ab 1 Q) hac U4 Q Q<|gp 2 ?_
 cases cg:(a0.fl.getD ta.1.toNat default).jX
 ·
  have H:=H.cf cg
  refine gq 12 ?_
  cases H.out; exact et () 2 [0,1] 0
 have H:=H.ct cg
 refine gl 6 [0]<|gr H fun gb H=>?_
 have had:ta.1.toNat<a0.fl.length:=bC gb
 refine Dv.kF Q (gg Q) Q (ab 1 Q) Q fF ir iW gb.1 gb.2<|Dv.o7 (j:=ta.1.toNat) (f:=0) Q (gg Q) Q (ab 1 Q) had ir Q iW (Nat.le_of_ble_eq_true Q)<|el H fun tc hae H=>Dv.call Q (gg Q) (cL 111) Q (jz.c hae)<|gq 3 ?_
 cases H.out; exact et () 2 [0,1] 0
theorem aR.c {v0_0 v0_1:OV} {b0_:Nat} (h:aR.f k a0 a1 a2=some r):Tr prog 72 [bO b0_,vS a1,vI a2] [ay b0_ 190 [eq v0_0.1,eq v0_1.1],own ai.K v0_0.1 a0.fl] (γ:=OV) (fun _=>True) (fun g=>eq g.1) (fun g=>[ay b0_ 190 [eq v0_0.1,eq v0_1.1],own ai.K v0_0.1 a0.fl,own aC g.1 r]):=by
 refine tf func72 h fun R0 F H=>?_
 refine so<|so<|wr 3 0<|go 1<|Dv.mkc (fst:=#[.pointer (some ⟨b0_,0,none⟩)]) Q T Q<|go 1<|WP.iQ H (fun qh:(Int×Bool×(List BA))×OV=>qh.1) (fun qh=>[(7,eq qh.2.1)]) (fun qh=>[ay b0_ 190 [eq v0_0.1,eq v0_1.1],own ai.K v0_0.1 a0.fl,own aC qh.2.1 qh.1.2.2]++F) (fun qh H=>?_) (fun H=>?_)
 ·
  obtain ⟨pa,va⟩:=qh
  refine sp ?_
  cases H.out; exact et va 3 [0,1,2] 0
 refine wr 6 0<|gl 4 [0]<|Dv.kG Q T Q (ab 1 Q) fF<|go 1<|WP.block<|wg (eX aC none) fun _ _=>?_
 refine ws 3 [1,2,0] 0 ?_
 refine lp (fun j_ (pc:Int×(List BA)×OV)=>aR.l0 k a0 a1 a2 j_ pc.1 pc.2.1) (0,([]:List BA),l6) H (fun pc=>[(1,vS a1),(2,vI a2),(7,eq pc.2.2.1),(8,eq (.func (.func 138) #[.pointer (some ⟨b0_,0,none⟩)] #[])),(16,eq v0_0.1),(17,vI (a0.fl.length:Int)),(18,vI pc.1)]) (fun pc=>[ay b0_ 190 [eq v0_0.1,eq v0_1.1],own ai.K v0_0.1 a0.fl,own aC pc.2.2.1 pc.2.1]++F) ?_
 rintro j_ ⟨xa,xb,vb⟩ H
 rcases j_ with _ | ja
 ·
  exact (aZ.no H).elim
 try dsimp only at H
 rw [aR.l0] at H
 refine so<|WP.seq<|ce H ?_ ?_ <;> intro H
 rotate_left
 ·
  refine WP.exit ?_
  have H:=H.out
  exact jn ((xa,decide (xa<(a0.fl.length:Int)),xb),vb) H
 refine WP.skip<|WP.seq<|WP.block<|wr 4 12<|gr H fun ga H=>?_
 have haa:xa.toNat<a0.fl.length:=bC ga
 refine Dv.kF Q T Q (ab 1 Q) Q fF ir iW ga.1 ga.2<|Dv.o7 (j:=xa.toNat) (f:=0) Q T Q (ab 1 Q) haa ir Q iW (Nat.le_of_ble_eq_true Q)<|al Q T uC nofun fun ba=>sy 0 ?_
 refine .fin<|wr 12 0<|kW 5 [0] ?_
 cases cc:decide (((a0.fl.getD xa.toNat default).aa)=a1)
 ·
  have H:=H.cf cc
  refine go 7<|WP.cond Q nofun (fun _=>?_)
  refine WP.skip<|rg 2 0<|go 2<|ns 4 [0,1,2,3] 1 ?_
  exact bk ja (ax (xa+1),xb,vb) H
 have H:=H.ct cc
 refine gl 5 [0]<|el H fun ta hac H=>Dv.Ej (fst:=#[.pointer (some ⟨b0_,0,none⟩)]) (B:=[ay b0_ 190 [eq v0_0.1,eq v0_1.1],own ai.K v0_0.1 a0.fl]) (F:=[ay ba 52 (ai.enc (a0.fl.getD xa.toNat default)),own aC vb.1 xb]++F) Q (gg Q) Q (cL 138) Q (eH.c hac (b0_:=b0_) (v0_0:=v0_0) (v0_1:=v0_1)) (mc (L:=[ay ba 52 (ai.enc (a0.fl.getD xa.toNat default)),ay b0_ 190 [eq v0_0.1,eq v0_1.1],own ai.K v0_0.1 a0.fl,own aC vb.1 xb]) (F:=F) [1,2,0,3] Q Q Q)<|go 1<|ce H ?_ ?_ <;> intro H
 rotate_left
 ·
  refine WP.skip<|rg 2 0<|go 2<|ns 4 [0,1,2,3] 1 ?_
  exact bk ja (ax (xa+1),xb,vb) H
 refine rg 6 16<|gl 3 [0]<|Dv.lit aC ([(a0.fl.getD xa.toNat default).ak]:List BA) (css:=[[vS ((a0.fl.getD xa.toNat default).ak)]]) Q T eh U9 c9 z9 Q dc dc Q ⟨(cells_one (aj Q)),T⟩ Q Q Q<|gr H fun gb H=>ap aC 3 ([(a0.fl.getD xa.toNat default).ak]:List BA) bY eh (.inr ⟨_,eh⟩) xH gb nofun fun vd=>?_
 refine go 1<|rg 2 0<|go 2<|ns 4 [0,1,2,3] 1 ?_
 exact bk ja (ax (xa+1),xb++([(a0.fl.getD xa.toNat default).ak]:List BA),vd) H
theorem Kh (x y:Pos):im.f 8 x y=some (gI x y):=by
 unfold im.f cF.f aD.f cmp_isNaN_int.f cmp_isNaN_string.f bE.f gI jS
 simp only [Option.bind_some,bne_self_eq_false,decide_true,Bool.not_true,cond_false]
 rcases Int.lt_trichotomy x.bJ y.bJ with h | h | h
 ·
  have h2:¬ y.bJ<x.bJ:=om
  simp only [h,decide_true,cond_true,Option.bind_some,if_true]
  cases dH x.b9 y.b9 <;> cases dH y.b9 x.b9 <;> rfl
 rotate_left
 ·
  have h1:¬ x.bJ<y.bJ:=om
  simp only [h,h1,decide_true,decide_false,cond_true,cond_false,Option.bind_some,if_true,if_false]
  cases dH x.b9 y.b9 <;> cases dH y.b9 x.b9 <;> rfl
 have h1:¬ x.bJ<y.bJ:=om
 have h2:¬ y.bJ<x.bJ:=om
 simp only [h1,h2,decide_false,cond_false,Option.bind_some,if_false]
 cases dH x.b9 y.b9 <;> cases dH y.b9 x.b9 <;> rfl
theorem xx (x y:Pos):ltOf gI x y=true↔x.bJ<y.bJ∨(x.bJ=y.bJ∧dH x.b9 y.b9=true):=by
 unfold ltOf gI
 rw [decide_eq_true_eq]
 by_cases h:x.bJ<y.bJ
 ·
  simp [h]
 by_cases h2:y.bJ<x.bJ
 ·
  rw [if_neg h,if_pos h2]; constructor
  ·
   intro k; omega
  rintro (k | ⟨k,_⟩) <;> omega
 rw [if_neg h,if_neg h2,mU]; constructor
 ·
  intro k; exact .inr ⟨om,k⟩
 rintro (k | ⟨_,k⟩)
 ·
  omega
 exact k
theorem tV (x y:Pos):ltOf gI x y=false↔y.bJ<x.bJ∨(x.bJ=y.bJ∧dH x.b9 y.b9=false):=by
  have h:=xx x y
  cases e:ltOf gI x y with
  | true=>
    have h:=h.1 e
    refine ⟨fun k=>(by cases k),fun k=>?_⟩
    rcases h with h | ⟨h1,h2⟩ <;> rcases k with k | ⟨k1,k2⟩
    · omega
    · omega
    · omega
    · rw [h2] at k2; cases k2
  | false=>
    refine ⟨fun _=>?_,fun _=>Q⟩
    rw [e] at h
    have h:¬ _:=fun k=>by have:=h.2 k; cases this
    rcases Int.lt_trichotomy x.bJ y.bJ with k | k | k
    · exact (h (.inl k)).elim
    · cases e2:dH x.b9 y.b9 with
      | true=>exact (h (.inr ⟨k,e2⟩)).elim
      | false=>exact .inr ⟨k,rfl⟩
    · exact .inl k
theorem pT:Go.Sort.SWO (ltOf gI) where
  irrefl x:=by rw [tV]; exact .inr ⟨rfl,iC _⟩
  trans x y z h1 h2:=by
    rw [xx] at *
    rcases h1 with h1 | ⟨h1,k1⟩ <;> rcases h2 with h2 | ⟨h2,k2⟩
    · exact .inl om
    · exact .inl om
    · exact .inl om
    · exact .inr ⟨om,ma k1 k2⟩
  ntrans x y z h1 h2:=by
    rw [tV] at *
    rcases h1 with h1 | ⟨h1,k1⟩ <;> rcases h2 with h2 | ⟨h2,k2⟩
    · exact .inl om
    · exact .inl om
    · exact .inl om
    · exact .inr ⟨om,o3 k2 k1⟩
theorem rN (x y:Pos) (h1:ltOf gI x y=false) (h2:ltOf gI y x=false):x=y:=by
 rw [tV] at *
 rcases h1 with h1 | ⟨h1,k1⟩ <;> rcases h2 with h2 | ⟨h2,k2⟩
 ·
  omega
 ·
  omega
 ·
  omega
 obtain ⟨a,b⟩:=x; obtain ⟨c,d⟩:=y
 simp only at h1 k1 k2
 rw [h1,kP k1 k2]
theorem dK.c {p0_:OV} (h:dK.f a0=some r):Tr prog 285 [eq p0_.1,eq (.func (.func 161) #[] #[])] [own Pos.K p0_.1 a0] (γ:=Unit) (fun _=>True) (fun g=>kR []) (fun g=>[own Pos.K p0_.1 r]):=by
 unfold dK.f at h
 obtain ⟨h0,h5⟩:=(aZ.of h).aq
 obtain rfl:=aZ.out h5
 exact Fb (K:=Pos.K) (ev:=fun x=>[.int .i64 x.bJ,.string x.b9]) (fun _=>Q) dc (fun x y=>im.c (Kh x y)) (fun ay off cap d w hc hH hb hs=>AnyQ.slices_SortFunc_total Tryz.lays6 2 Tryz.isAgg81 Tryz.sizeOf81 _ (fun _=>Q) (fun x v hv=>by simp at hv; rcases hv with rfl | rfl <;> rfl) gI pT 161 #[] ay off cap d w (enters_of func161 kr Q) hc hH hb hs rN) (fun q cap w=>AnyF.slices_SortFunc_none Tryz.lays6 q cap _ w) om
theorem n0.c {b0_:Nat} (h:n0.f a0=some r):Tr prog 271 [bO b0_] [ay b0_ 268 [vS a0.fe.b9,vS a0.fe.aa,sl aC a0.fe.ae,vS a0.fe.ag,vS a0.fe.ak,vI a0.fe.bL,vI a0.cI,vB a0.kB]] (γ:=Unit) (fun _=>True) (fun g=>vB r) (fun g=>[ay b0_ 268 [vS a0.fe.b9,vS a0.fe.aa,sl aC a0.fe.ae,vS a0.fe.ag,vS a0.fe.ak,vI a0.fe.bL,vI a0.cI,vB a0.kB]]):=by
 refine tf func271 h fun R0 F H=>?_
 refine so<|sp ?_
 cases H.out; exact et () 1 [0] 0
theorem aI.c {b0_:Nat} {v0_0:OV} (h:aI.f a0=some r):Tr prog 270 [bO b0_,eq (.func (.func 271) #[] #[])] [ay b0_ 265 [vS a0.cM,eq v0_0.1],kh Value.string aT.O v0_0.1 a0.ar] (γ:=OV) (fun _=>True) (fun g=>eq g.1) (fun g=>[ay b0_ 265 [vS a0.cM,eq v0_0.1],kh Value.string aT.O v0_0.1 a0.ar,own aC g.1 r]):=by
  unfold aI.f at h
  obtain ⟨h0,h5⟩:=(aZ.of h).aq
  obtain rfl:=aZ.out h5
  clear h h5
  refine Tr.body func270 (c:=_) Q ntmps270 (Nat.le_of_ble_eq_true Q) fun R0 F=>?_
  refine so<|sp ?_
  refine WP.EJ (β:=List Nat×OV) (fun b=>b.1.Perm (List.range a0.ar.length)) (fun b=>[(5,eq b.2.1),(1,eq (.func (.func 271) #[] #[]))]) (fun b=>[own Pos.K b.2.1 (kI a0.ar aI.g b.1),kh Value.string aT.O v0_0.1 a0.ar,ay b0_ 265 [vS a0.cM,eq v0_0.1]]++F) (fun b hb=>?_) ?_
  rotate_left
  · refine wr 5 16<|kW 4 [0] ?_
    refine Dv.gh (l':=fun ps:List OV=>[mp Value.string (fun p:OV=>eq p.1) v0_0.1 (cY a0.ar ps),qF aT.O a0.ar ps,ay b0_ 265 [vS a0.cM,eq v0_0.1]]++F) (iR (mq 1 Q)) (fun ps hps=>?_)
    refine Dv.rgb (jj:=0) Q T Q Q vT nofun (fun q=>.fin ?_)
    refine WP.gh (l':=fun _:Unit=>[s9 Value.string (fun p:OV=>eq p.1) v0_0.1 q.1 (cY a0.ar ps) [],qF aT.O a0.ar ps,ay b0_ 265 [vS a0.cM,eq v0_0.1]]++F) (iR (ok:=fun _=>True) fun R w k=>⟨(),T,k⟩) (fun _ _=>?_)
    refine WP.gh (l':=fun _:Unit=>[own Pos.K l6.1 [],s9 Value.string (fun p:OV=>eq p.1) v0_0.1 q.1 (cY a0.ar ps) [],qF aT.O a0.ar ps,ay b0_ 265 [vS a0.cM,eq v0_0.1]]++F) (iR (eX Pos.K none)) (fun _ _=>?_)
    refine WP.block ?_
    refine WP.jY (E':=(fun b:List Nat×OV=>[(5,eq b.2.1),(15,eq q.1),(1,eq (.func (.func 271) #[] #[]))]) ([],l6)) (cW Q (cW Q (cW Q jD))) (WP.loop (β:=List Nat×OV) (fun k b=>b.1.length+k=a0.ar.length) (fun b=>[(5,eq b.2.1),(15,eq q.1),(1,eq (.func (.func 271) #[] #[]))]) (fun b=>[own Pos.K b.2.1 (kI a0.ar aI.g b.1),s9 Value.string (fun p:OV=>eq p.1) v0_0.1 q.1 (cY a0.ar ps) b.1,qF aT.O a0.ar ps,ay b0_ 265 [vS a0.cM,eq v0_0.1]]++F) ?_ (k:=a0.ar.length) (b:=([],l6)) (Nat.zero_add _))
    rintro k ⟨is,v⟩ hk
    replace hk:is.length+k=a0.ar.length:=hk
    refine wr 2 1<|Dv.rgn (jj:=1) Q T Q Q nofun (fun z hz=>?_)
    rcases z with _ | j
    · have hz:is.Perm (List.range (cY a0.ar ps).length):=hz
      rw [pV hps.1] at hz
      refine eD Q T Q Q<|.fin<|WP.seq<|WP.cond Q nofun (fun _=>WP.exit ?_)
      refine Dn.gh (l':=fun _:Unit=>[own Pos.K v.1 (kI a0.ar aI.g is),s9 Value.string (fun p:OV=>eq p.1) v0_0.1 q.1 (cY a0.ar ps) is,qF aT.O a0.ar ps,ay b0_ 265 [vS a0.cM,eq v0_0.1]]++F) (iR (ok:=fun _=>True) fun R w k=>⟨(),T,k⟩) (fun _ _=>?_)
      refine Dn.gh (l':=fun _:Unit=>[mp Value.string (fun p:OV=>eq p.1) v0_0.1 (cY a0.ar ps),own Pos.K v.1 (kI a0.ar aI.g is),qF aT.O a0.ar ps,ay b0_ 265 [vS a0.cM,eq v0_0.1]]++F) (iR (D6 (pm 4 [1,0,2,3]))) (fun _ _=>?_)
      refine Dn.gh (l':=fun _:Unit=>[kh Value.string aT.O v0_0.1 a0.ar,own Pos.K v.1 (kI a0.ar aI.g is),ay b0_ 265 [vS a0.cM,eq v0_0.1]]++F) (iR (iy hps Q (pm 4 [0,2,1,3]))) (fun _ _=>?_)
      exact Jn.mk (is,v) hz (cW Q (cW Q jD)) (oF 3 [1,0,2] kr Q Q)
    have hz:j<(cY a0.ar ps).length∧j ∉ is∧is.length<(cY a0.ar ps).length:=hz
    obtain ⟨e,p,he,hp,hep⟩:=zU hps hz.1
    have hlt:is.length<a0.ar.length:=by rw [← pV hps.1]; exact hz.2.2
    have hsl:=Nat.le_trans (zZ (m:=a0.ar) (f:=aI.g) (is:=is)) (Nat.le_of_lt hlt)
    have e1:nxV Value.string (fun p:OV=>eq p.1) (cY a0.ar ps) (some j)=kR [vB true,vS e.1,eq p.1]:=by simp only [nxV,hep]
    rw [e1]
    refine eD Q T Q Q<|.fin<|WP.seq<|WP.cond Q (fun _=>WP.skip ?_) nofun
    refine WP.gh (l':=fun _:Unit=>[own Pos.K v.1 (kI a0.ar aI.g is),s9 Value.string (fun p:OV=>eq p.1) v0_0.1 q.1 (cY a0.ar ps) (is++[j]),qF aT.O a0.ar ps,ay b0_ 265 [vS a0.cM,eq v0_0.1]]++F) (iR (ok:=fun _=>True) fun R w k=>⟨(),T,k⟩) (fun _ _=>?_)
    refine WP.block<|wr 5 0<|Dv.rge 1 Q T Q Q hep ?_
    refine eD Q T Q Q<|eD Q T Q Q<|gq 2 ?_
    refine WP.gh (l':=fun _:Unit=>[aT.O p e.2,DE aT.O a0.ar ps j,own Pos.K v.1 (kI a0.ar aI.g is),s9 Value.string (fun p:OV=>eq p.1) v0_0.1 q.1 (cY a0.ar ps) (is++[j]),ay b0_ 265 [vS a0.cM,eq v0_0.1]]++F) (iR (HC he hp (pm 4 [2,0,1,3]))) (fun _ _=>?_)
    refine WP.gh (l':=fun b:Nat=>[ay b 268 [vS e.2.fe.b9,vS e.2.fe.aa,sl aC e.2.fe.ae,vS e.2.fe.ag,vS e.2.fe.ak,vI e.2.fe.bL,vI e.2.cI,vB e.2.kB],DE aT.O a0.ar ps j,own Pos.K v.1 (kI a0.ar aI.g is),s9 Value.string (fun p:OV=>eq p.1) v0_0.1 q.1 (cY a0.ar ps) (is++[j]),ay b0_ 265 [vS a0.cM,eq v0_0.1]]++F) (iR (aT.iM 0 Q)) (fun b hb=>?_)
    refine wr 3 0<|go 2<|Dv.Ej (fst:=#[]) (B:=[ay b 268 [vS e.2.fe.b9,vS e.2.fe.aa,sl aC e.2.fe.ae,vS e.2.fe.ag,vS e.2.fe.ak,vI e.2.fe.bL,vI e.2.cI,vB e.2.kB]]) (F:=[DE aT.O a0.ar ps j,own Pos.K v.1 (kI a0.ar aI.g is),s9 Value.string (fun p:OV=>eq p.1) v0_0.1 q.1 (cY a0.ar ps) (is++[j]),ay b0_ 265 [vS a0.cM,eq v0_0.1]]++F) Q T Q (cL 271) Q (Tr.jY (n0.c (a0:=e.2) (b0_:=b) (r:=true) Q) (.cons (iD hb) .nil)) (List.Perm.refl _)<|.fin ?_
    refine WP.cond Q (fun c1=>?_) (fun c1=>?_)
    · have hg:aI.g e=some ⟨e.2.cI,e.1⟩:=by unfold aI.g; rw [c1]; rfl
      have e6:=wb (f:=aI.g) (is:=is) he hg
      have hbd:(kI a0.ar aI.g is).length+([⟨e.2.cI,e.1⟩]:List Pos).length≤9223372036854775807∧((kI a0.ar aI.g is).length+([⟨e.2.cI,e.1⟩]:List Pos).length)*24≤140737488355328:=by rw [List.length_singleton]; omega
      refine rg 10 256<|go 2<|Dv.bZ hb Q T Q<|fp hb Q T Q w9<|gl 2 [0]<|Dv.lx (css:=[[vI e.2.cI],[vS e.1]]) Q T yr FD IK Q ⟨(cells_one (aj Q)),⟨(cells_one (aj Q)),T⟩⟩ Q Q<|Dv.lit Pos.K ([⟨e.2.cI,e.1⟩]:List Pos) (css:=[[vI e.2.cI,vS e.1]]) Q T FO yr B1 IK Q dc dc Q ⟨cA,T⟩ Q Q Q<|ap Pos.K 2 ([⟨e.2.cI,e.1⟩]:List Pos) bY FO (.inr ⟨_,FO⟩) inf81 hbd nofun fun v9=>go 1 ?_
      refine Dn.gh (l':=fun _:Unit=>[aT.O p e.2,DE aT.O a0.ar ps j,own Pos.K v9.1 ((kI a0.ar aI.g is)++([⟨e.2.cI,e.1⟩]:List Pos)),s9 Value.string (fun p:OV=>eq p.1) v0_0.1 q.1 (cY a0.ar ps) (is++[j]),ay b0_ 265 [vS a0.cM,eq v0_0.1]]++F) (iR (aT.shut (p:=p) (m:=e.2) b hb (List.Perm.refl _))) (fun _ _=>?_)
      refine Dn.gh (l':=fun _:Unit=>[qF aT.O a0.ar ps,own Pos.K v9.1 ((kI a0.ar aI.g is)++([⟨e.2.cI,e.1⟩]:List Pos)),s9 Value.string (fun p:OV=>eq p.1) v0_0.1 q.1 (cY a0.ar ps) (is++[j]),ay b0_ 265 [vS a0.cM,eq v0_0.1]]++F) (iR (G9 he hp (List.Perm.refl _))) (fun _ _=>?_)
      rw [e6]
      exact vM.mk (k-1) (is++[j],v9) om (by show (is++[j]).length+(k-1)=_; rw [List.length_append,List.length_singleton]; omega) (cW Q (cW Q (cW Q jD))) (oF 4 [1,2,0,3] kr Q Q)
    cases c1
  obtain ⟨is,v5⟩:=b
  replace hb:is.Perm (List.range a0.ar.length):=hb
  have hp:=wH (f:=aI.g) hb
  have hs:dK.f (kI a0.ar aI.g is)=some (kO gI (a0.ar.filterMap aI.g)):=by
    unfold dK.f Sp.aq
    rw [if_pos (by rw [hp.length_eq]; exact Nat.le_trans (List.length_filterMap_le _ _) h0),CZ pT rN hp]
  have hS:(kO gI (a0.ar.filterMap aI.g)).length≤1000000:=by unfold kO; rw [List.length_mergeSort]; exact Nat.le_trans (List.length_filterMap_le _ _) h0
  refine wr 2 2<|go 1<|cx 3 [0,1,2] (cL 285) (dK.c hs (p0_:=v5)) nofun fun _ _=>.fin ?_
  generalize kO gI (a0.ar.filterMap aI.g)=S at hS
  refine sp ?_
  refine WP.EJ (β:=OV) (fun _=>True) (fun v=>[(8,eq v.1)]) (fun v=>[own aC v.1 (S.map (·.b9)),own Pos.K v5.1 S,kh Value.string aT.O v0_0.1 a0.ar,ay b0_ 265 [vS a0.cM,eq v0_0.1]]++F) (fun v _=>?_) ?_
  · refine so<|rt i2 Q v 4 [1,3,2,0] 1 (.cons (aG Q) .nil)
  refine wr 3 0<|go 1<|Dv.kG (Kd:=Pos.K) (xs:=S) (v:=v5.1) Q T Q (ab 0 Q) FO<|gq 1 ?_
  refine WP.gh (l':=fun _:Unit=>[own aC l6.1 [],own Pos.K v5.1 S,kh Value.string aT.O v0_0.1 a0.ar,ay b0_ 265 [vS a0.cM,eq v0_0.1]]++F) (iR (eX aC none)) (fun _ _=>?_)
  refine WP.block ?_
  refine WP.jY (E':=(fun b:Nat×OV=>[(8,eq b.2.1),(35,eq v5.1),(36,vI (S.length:Int)),(37,vI (b.1:Int))]) (0,l6)) (cW Q (cW Q (cW Q (cW Q jD)))) (WP.loop (β:=Nat×OV) (fun k b=>b.1+k=S.length) (fun b=>[(8,eq b.2.1),(35,eq v5.1),(36,vI (S.length:Int)),(37,vI (b.1:Int))]) (fun b=>[own aC b.2.1 ((S.take b.1).map (·.b9)),own Pos.K v5.1 S,kh Value.string aT.O v0_0.1 a0.ar,ay b0_ 265 [vS a0.cM,eq v0_0.1]]++F) ?_ (k:=S.length) (b:=(0,l6)) (Nat.zero_add _))
  rintro k ⟨j,v8⟩ hk
  replace hk:j+k=S.length:=hk
  refine so<|WP.seq<|WP.cond Q (fun c2=>WP.skip ?_) (fun c2=>WP.exit ?_)
  rotate_left
  · have c3:¬ ((j:Int)<(S.length:Int)):=of_decide_eq_false c2
    have e3:S.take j=S:=List.take_of_length_le om
    change ∀ R a w,R0.le R→mW _ R a _→St R ([own aC v8.1 ((S.take j).map (·.b9)),own Pos.K v5.1 S,kh Value.string aT.O v0_0.1 a0.ar,ay b0_ 265 [vS a0.cM,eq v0_0.1]]++F) w→_
    rw [e3]
    exact Jn.mk v8 T (cW Q jD) (List.Perm.refl _)
  have c3:(j:Int)<(S.length:Int):=of_decide_eq_true c2
  have hj:j<S.length:=om
  refine WP.seq<|WP.block<|wr 4 12<|Dv.kF Q T Q (ab 1 Q) Q FO yr B1 om c3<|Dv.o7 (j:=j) (f:=0) Q T Q (ab 1 Q) hj yr Q B1 (Nat.le_of_ble_eq_true Q)<|al Q T s6 nofun fun b=>sx 0 Q T Q Q cA Eu Q Q Q nofun<|.fin ?_
  have hbd:((S.take j).map (·.b9)).length+([(S.getD j default).b9]:List BA).length≤9223372036854775807∧(((S.take j).map (·.b9)).length+([(S.getD j default).b9]:List BA).length)*16≤140737488355328:=by rw [List.length_singleton,List.length_map,List.length_take]; omega
  refine rg 6 16<|gl 3 [0]<|Dv.lit aC ([(S.getD j default).b9]:List BA) (css:=[[vS ((S.getD j default).b9)]]) Q T eh U9 c9 z9 Q dc dc Q ⟨(cells_one (aj Q)),T⟩ Q Q Q<|ap aC 1 ([(S.getD j default).b9]:List BA) bY eh (.inr ⟨_,eh⟩) xH hbd nofun fun v9=>go 1 ?_
  refine WP.gh (l':=fun _:Unit=>[own aC v9.1 ((S.take j).map (·.b9)++([(S.getD j default).b9]:List BA)),own Pos.K v5.1 S,kh Value.string aT.O v0_0.1 a0.ar,ay b0_ 265 [vS a0.cM,eq v0_0.1]]++F) (iR (ux 5 [0,1,2,3,4] 1 kr Q Q)) (fun _ _=>?_)
  have e4:(S.take j).map (·.b9)++([(S.getD j default).b9]:List BA)=(S.take (j+1)).map (·.b9):=by rw [List.take_add_one,List.map_append,gD,gE hj]; rfl
  rw [e4]
  refine rg 2 0<|n9 Q Q Q (nJ (a:=j) (b:=1) om)<|gq 1 ?_
  exact vM.mk (k-1) (j+1,v9) om (by show j+1+(k-1)=S.length; omega) (cW Q (cW Q (cW Q (cW Q jD)))) (List.Perm.refl _)
theorem dag_Dag_All.c {v0_0:OV} {b0_:Nat} (h:dag_Dag_All.f k a0=some r):Tr prog 241 [bO b0_] [ay b0_ 265 [vS a0.cM,eq v0_0.1],kh Value.string aT.O v0_0.1 a0.ar] (γ:=OV) (fun _=>True) (fun g=>eq g.1) (fun g=>[ay b0_ 265 [vS a0.cM,eq v0_0.1],kh Value.string aT.O v0_0.1 a0.ar,own Event.K g.1 r]):=by
 refine tf func241 h fun R0 F H=>?_
 refine so<|so<|WP.iQ H (fun qh:(Int×Int×Bool×(List Event)×(List BA))×OV×OV=>qh.1) (fun qh=>[(3,eq qh.2.1.1)]) (fun qh=>[ay b0_ 265 [vS a0.cM,eq v0_0.1],kh Value.string aT.O v0_0.1 a0.ar,own Event.K qh.2.1.1 qh.1.2.2.2.1,own aC qh.2.2.1 qh.1.2.2.2.2]++F) (fun qh H=>?_) (fun H=>?_)
 ·
  obtain ⟨pa,va,vb⟩:=qh
  refine sp ?_
  cases H.out; exact et va 4 [3,0,1,2] 1
 refine wr 4 2<|go 1<|el H fun ta haa H=>cx 2 [0,1] (cL 270) (aI.c haa (b0_:=b0_) (v0_0:=v0_0)) nofun fun ga _=>?_
 refine Dv.kG Q T Q (ab 2 Q) eh<|go 1<|WP.block<|wg (eX Event.K none) fun _ _=>?_
 refine ws 4 [1,2,3,0] 0 ?_
 refine lp (fun j_ (pc:Int×(List Event)×OV)=>dag_Dag_All.l0 k a0 ta j_ pc.1 pc.2.1) (0,([]:List Event),l6) H (fun pc=>[(0,bO b0_),(3,eq pc.2.2.1),(7,eq ga.1),(8,vI (ta.length:Int)),(9,vI pc.1)]) (fun pc=>[ay b0_ 265 [vS a0.cM,eq v0_0.1],kh Value.string aT.O v0_0.1 a0.ar,own aC ga.1 ta,own Event.K pc.2.2.1 pc.2.1]++F) ?_
 rintro j_ ⟨xa,xb,vd⟩ H
 rcases j_ with _ | ja
 ·
  exact (aZ.no H).elim
 try dsimp only at H
 rw [dag_Dag_All.l0] at H
 refine so<|WP.seq<|ce H ?_ ?_ <;> intro H
 rotate_left
 ·
  refine WP.exit ?_
  have H:=H.out
  refine ns 4 [0,1,3,2] 0 ?_
  exact jn (((ta.length:Int),xa,decide (xa<(ta.length:Int)),xb,ta),vd,ga) H
 refine WP.skip<|WP.seq<|WP.block<|wr 3 0<|gr H fun gb H=>?_
 have hac:xa.toNat<ta.length:=bC gb
 refine Dv.kF Q T Q (ab 2 Q) Q eh U9 c9 gb.1 gb.2<|Dv.oH (j:=xa.toNat) (f:=0) (p:=vS (ta.getD xa.toNat default)) Q T Q (ab 2 Q) hac U9 Q Q<|go 1<|rg 14 4096<|gl 6 [0]<|vg (mq 1 Q) fun za had=>?_
 refine Dv.Ep iV Q T Q (ab 0 Q) Q vT (dR U9) A7 (fun _=>Q)<|gr H fun gi H=>vg (qB had Q gi (pm 5 [1,0,2,3,4])) fun _ _=>?_
 refine Dv.pA aT.nn Q T Q (ab 0 Q)<|vg (aT.iM 0 Q) fun gj hae=>?_
 refine fp hae Q T Q tL<|gl 1 [0]<|el H fun tc haf H=>cl Q (cL 146) Q (iA.c haf)<|Dv.lit Event.K ([tc]:List Event) (css:=[Event.enc tc]) Q T py km mK Di Q dc dc Q ⟨(bn (Event.K.one _)),T⟩ Q Q Q<|gr H fun gk H=>ap Event.K 5 ([tc]:List Event) bY py (.inr ⟨_,py⟩) uO gk nofun fun ve=>?_
 refine go 1<|rg 2 0<|go 2<|ng (aT.shut (p:=((mget (cY a0.ar za) (ta.getD xa.toNat default)).getD iV)) (m:=(mget a0.ar (ta.getD xa.toNat default)).getD default) gj hae (pm 6 [0,1,2,3,4,5])) fun _ _=>?_
 refine ng (oa had Q gi (pm 6 [0,1,2,3,4,5])) fun _ _=>?_
 refine ng (iy had Q (pm 5 [1,0,2,3,4])) fun _ _=>?_
 refine ns 4 [1,0,2,3] 0 ?_
 exact bk ja (ax (xa+1),xb++([tc]:List Event),ve) H
theorem member_joined.c {v0_0:OV} {b0_:Nat} (h:member_joined.f k a0=some r):Tr prog 180 [bO b0_] [ay b0_ 265 [vS a0.cM,eq v0_0.1],kh Value.string aT.O v0_0.1 a0.ar] (γ:=OV) (fun _=>True) (fun g=>eq g.1) (fun g=>[ay b0_ 265 [vS a0.cM,eq v0_0.1],kh Value.string aT.O v0_0.1 a0.ar,mp Value.string (fun x:Int=>vI x) g.1 r]):=by
 refine tf func180 h fun R0 F H=>?_
 refine so<|wr 2 1<|Dv.KG Value.string (fun x:Int=>vI x) Q T nofun (fun va=>?_)
 refine go 1<|WP.iQ H (fun qh:(Int×Int×Bool×(List (BA×Int))×(List Event))×OV=>qh.1) (fun qh=>[(3,eq va.1)]) (fun qh=>[ay b0_ 265 [vS a0.cM,eq v0_0.1],kh Value.string aT.O v0_0.1 a0.ar,mp Value.string (fun x:Int=>vI x) va.1 qh.1.2.2.2.1,own Event.K qh.2.1 qh.1.2.2.2.2]++F) (fun qh H=>?_) (fun H=>?_)
 ·
  obtain ⟨pa,vb⟩:=qh
  refine sp ?_
  cases H.out; exact et va 4 [3,0,1,2] 1
 refine wr 4 2<|go 1<|el H fun ta haa H=>cx 3 [1,2,0] (cL 241) (dag_Dag_All.c haa (b0_:=b0_) (v0_0:=v0_0)) nofun fun ga _=>?_
 refine Dv.kG Q T Q (ab 2 Q) py<|go 1<|WP.block<|ws 4 [0,1,2,3] 0 ?_
 refine lp (fun j_ (pc:Int×(List (BA×Int)))=>member_joined.l0 k ta j_ pc.1 pc.2) (0,([]:List (BA×Int))) H (fun pc=>[(3,eq va.1),(8,eq ga.1),(9,vI (ta.length:Int)),(10,vI pc.1)]) (fun pc=>[ay b0_ 265 [vS a0.cM,eq v0_0.1],kh Value.string aT.O v0_0.1 a0.ar,own Event.K ga.1 ta,mp Value.string (fun x:Int=>vI x) va.1 pc.2]++F) ?_
 rintro j_ ⟨xa,xb⟩ H
 rcases j_ with _ | ja
 ·
  exact (aZ.no H).elim
 try dsimp only at H
 rw [member_joined.l0] at H
 refine so<|WP.seq<|ce H ?_ ?_ <;> intro H
 rotate_left
 ·
  refine WP.exit ?_
  have H:=H.out
  refine ns 4 [0,1,3,2] 0 ?_
  exact jn (((ta.length:Int),xa,decide (xa<(ta.length:Int)),xb,ta),ga) H
 refine WP.skip<|WP.seq<|WP.block<|wr 4 12<|gr H fun gb H=>?_
 have hac:xa.toNat<ta.length:=bC gb
 refine Dv.kF Q T Q (ab 2 Q) Q py km mK gb.1 gb.2<|Dv.o7 (j:=xa.toNat) (f:=0) Q T Q (ab 2 Q) hac km Q mK (Nat.le_of_ble_eq_true Q)<|al Q T uR nofun fun ba=>sy 0 ?_
 refine .fin<|sf [0]<|WP.block<|so<|ce H ?_ ?_ <;> intro H
 ·
  refine rg 4 8<|gl 3 [0]<|Dv.mup (jj:=4) 1 Q T Q Q Q Q s7 (dR U9) nofun<|.fin<|rg 2 0<|go 2<|ns 5 [0,1,2,3,4] 1 ?_
  exact bk ja (ax (xa+1),mput xb ((ta.getD xa.toNat default).ak) 1) H
 refine so<|ce H ?_ ?_ <;> intro H
 rotate_left
 ·
  refine WP.skip<|rg 2 0<|go 2<|ns 5 [0,1,2,3,4] 1 ?_
  exact bk ja (ax (xa+1),xb) H
 refine rg 4 8<|gl 3 [0]<|Dv.mdl (jj:=4) Q T Q Q Q s7 (dR U9) nofun<|.fin<|rg 2 0<|go 2<|ns 5 [0,1,2,3,4] 1 ?_
 exact bk ja (ax (xa+1),lK xb ((ta.getD xa.toNat default).ak)) H
theorem jL.c {v0_0:OV} {b0_:Nat} (h:jL.f k a0 a1=some r):Tr prog 121 [bO b0_,vS a1] [ay b0_ 265 [vS a0.cM,eq v0_0.1],kh Value.string aT.O v0_0.1 a0.ar] (γ:=Unit) (fun _=>True) (fun g=>vB r) (fun g=>[ay b0_ 265 [vS a0.cM,eq v0_0.1],kh Value.string aT.O v0_0.1 a0.ar]):=by
 refine tf func121 h fun R0 F H=>?_
 refine so<|wr 6 2<|go 1<|el H fun ta haa H=>cx 2 [0,1] (cL 180) (member_joined.c haa (b0_:=b0_) (v0_0:=v0_0)) nofun fun ga _=>?_
 refine go 1<|Dv.Ep 0 Q T Q (ab 2 Q) Q s7 (dR U9) z3 (fun _=>Q)<|gq 2 ?_
 cases H.out; exact et () 3 [2,0,1] 1
theorem bN.c {v0_0:OV} {b0_:Nat} (h:bN.f k a0 a1 a2=some r):Tr prog 57 [bO b0_,vS a1,vS a2] [ay b0_ 186 [eq v0_0.1],kh Value.string bf.O v0_0.1 a0.bx] (γ:=Unit) (fun _=>True) (fun g=>vB r) (fun g=>[ay b0_ 186 [eq v0_0.1],kh Value.string bf.O v0_0.1 a0.bx]):=by
 refine tf func57 h fun R0 F H=>?_
 refine so<|wr 6 4<|go 2<|el H fun ta haa H=>cx 2 [0,1] (cL 88) (aO.c haa (b0_:=b0_) (v0_0:=v0_0)) nofun fun va _=>?_
 refine go 1<|vg (bf.iM 2 Q) fun ga hac=>?_
 refine el H fun tc had H=>o8 4 [0,1,2,3] (cL 121) (Tr.jY (jL.c had (b0_:=ga.1) (v0_0:=ga.2)) (.cons (iD hac) (.cons cG .nil))) ?_
 refine go 1<|wg (bf.shut (p:=va) (m:=ta) (ga.1,ga.2) hac (pm 4 [0,1,2,3])) fun _ _=>?_
 refine wg (fu (aO.r haa) (pm 3 [2,0,1])) fun _ _=>?_
 cases H.out; exact et () 2 [1,0] 0
theorem il.c {cb0_:Nat} {cq0_0 cq0_1 cq0_2 cq0_3 cq0_4:OV} {c0:Src} {c1:BA} (h:il.f k a0 c0 c1=some r):Tr prog 73 [vS a0,bO cb0_,rp [vS c1]] [ay cb0_ 30 [eq cq0_0.1,eq cq0_1.1,eq cq0_2.1,eq cq0_3.1,eq cq0_4.1],aH.O cq0_0 c0.cK,gW.O cq0_1 c0.bu,bH.O cq0_2 c0.aW,bM.O cq0_3 c0.aY,bK.O cq0_4 c0.gG] (γ:=Unit) (fun _=>True) (fun g=>vB r) (fun g=>[ay cb0_ 30 [eq cq0_0.1,eq cq0_1.1,eq cq0_2.1,eq cq0_3.1,eq cq0_4.1],aH.O cq0_0 c0.cK,gW.O cq0_1 c0.bu,bH.O cq0_2 c0.aW,bM.O cq0_3 c0.aY,bK.O cq0_4 c0.gG]):=by
 refine tf func73 h fun R0 F H=>?_
 refine so<|wr 7 0<|gl 2 [0]<|lM Q T Q o9 Q<|go 1<|vg (aH.iM 1 Q) fun ga haa=>?_
 refine el H fun ta hac H=>o8 7 [0,1,2,3,4,5,6] (cL 57) (Tr.jY (bN.c hac (b0_:=ga.1) (v0_0:=ga.2)) (.cons (iD haa) (.cons cG (.cons cG .nil)))) ?_
 refine go 2<|wg (aH.shut (p:=cq0_0) (m:=c0.cK) (ga.1,ga.2) haa (pm 7 [0,1,2,3,4,5,6])) fun _ _=>?_
 cases H.out; exact et () 6 [1,0,2,3,4,5] 0
theorem kV.c {p0_0 p0_1 p0_2 p0_3 p0_4:OV} (h:kV.f k a0 a1 a2=some r):Tr prog 20 [agg [eq p0_0.1,eq p0_1.1,eq p0_2.1,eq p0_3.1,eq p0_4.1],vS a1,vI a2] [aH.O p0_0 a0.cK,gW.O p0_1 a0.bu,bH.O p0_2 a0.aW,bM.O p0_3 a0.aY,bK.O p0_4 a0.gG] (γ:=Unit) (fun _=>True) (fun g=>sl aC r) (fun g=>[aH.O p0_0 a0.cK,gW.O p0_1 a0.bu,bH.O p0_2 a0.aW,bM.O p0_3 a0.aY,bK.O p0_4 a0.gG]):=by
 refine tf func20 h fun R0 F H=>?_
 refine wr 3 3<|Dv.box Q T Q cA nofun fun ba=>Dv.box Q T Q cE nofun fun bc=>go 1<|wr 8 80<|gl 4 [1,0]<|vg (bH.iM 4 Q) fun ga haa=>?_
 refine el H fun ta hac H=>cx 9 [0,1,2,3,4,5,6,7,8] (cL 72) (Tr.jY (aR.c hac (b0_:=ga.1) (v0_0:=ga.2.1) (v0_1:=ga.2.2)) (.cons (iD haa) (.cons cG (.cons cG .nil)))) nofun fun gb _=>?_
 refine vg (bH.shut (p:=p0_2) (m:=a0.aW) (ga.1,ga.2.1,ga.2.2) haa (pm 10 [0,1,3,2,4,5,6,7,8,9])) fun _ _=>?_
 refine Dv.gh (rA (E':=[(0,agg [eq p0_0.1,eq p0_1.1,eq p0_2.1,eq p0_3.1,eq p0_4.1]),(1,vS a1),(2,vI a2),(3,bO ba),(4,rp [vS a1]),(6,dY),(11,eq gb.1)]) (l':=[bH.O p0_2 a0.aW,own aC gb.1 ta,ay ba 30 [eq p0_0.1,eq p0_1.1,eq p0_2.1,eq p0_3.1,eq p0_4.1],aH.O p0_0 a0.cK,gW.O p0_1 a0.bu,bM.O p0_3 a0.aY,bK.O p0_4 a0.gG]++F) 2 Q (ah Q ao (ah Q ao (ah Q ao (ah Q ao (ah Q dm (ah Q ao (ah Q ao cT))))))) (bP (.cons av (.cons av (.cons av (.cons av (.cons av (.cons av (.cons av .nil))))))) fun _=>av)) (fun _ _=>?_)
 refine Dv.mkx (Q:=jI (fun a0_=>il.f k a0_ a0 a1)) (L:=[ay ba 30 [eq p0_0.1,eq p0_1.1,eq p0_2.1,eq p0_3.1,eq p0_4.1],aH.O p0_0 a0.cK,gW.O p0_1 a0.bu,bH.O p0_2 a0.aW,bM.O p0_3 a0.aY,bK.O p0_4 a0.gG]) (cL 73) (by rintro _ _ ⟨a0_,r_,h_,rfl,rfl⟩; exact il.c h_ (cb0_:=ba) (cq0_0:=p0_0) (cq0_1:=p0_1) (cq0_2:=p0_2) (cq0_3:=p0_3) (cq0_4:=p0_4)) Q T Q Q<|el H fun tc had H=>cx 7 [1,2,3,4,0,5,6] (cL 71) (Tr.IW (A:=[own aC gb.1 ta]) (L:=[ay ba 30 [eq p0_0.1,eq p0_1.1,eq p0_2.1,eq p0_3.1,eq p0_4.1],aH.O p0_0 a0.cK,gW.O p0_1 a0.bu,bH.O p0_2 a0.aW,bM.O p0_3 a0.aY,bK.O p0_4 a0.gG]) (B:=fun gi:OV=>[own aC gi.1 tc]) (slices_DeleteFunc_string_xo.c had (p0_:=gb) (X1_:=(pk [ay ba 30 [eq p0_0.1,eq p0_1.1,eq p0_2.1,eq p0_3.1,eq p0_4.1],aH.O p0_0 a0.cK,gW.O p0_1 a0.bu,bH.O p0_2 a0.aW,bM.O p0_3 a0.aY,bK.O p0_4 a0.gG])))) nofun fun gi _=>?_
 refine go 1<|WP.gh (eF (E':=[(6,sl aC tc)]) (l':=[ay ba 30 [eq p0_0.1,eq p0_1.1,eq p0_2.1,eq p0_3.1,eq p0_4.1],aH.O p0_0 a0.cK,gW.O p0_1 a0.bu,bH.O p0_2 a0.aW,bM.O p0_3 a0.aY,bK.O p0_4 a0.gG]++F) 6 Q (ah Q dm cT) (bP (.cons av (.cons av (.cons av (.cons av (.cons av (.cons av .nil)))))) fun _=>av)) (fun _ _=>?_)
 cases H.out; exact et () 6 [0,1,2,3,4,5] 1
theorem iO.c {b0_:Nat} (h:iO.f a0=some r):Tr prog 118 [bO b0_] [ay b0_ 257 [vI a0.fn.fv,vI a0.dZ]] (γ:=Unit) (fun _=>True) (fun g=>vI r) (fun g=>[ay b0_ 257 [vI a0.fn.fv,vI a0.dZ]]):=by
 refine tf func118 h fun R0 F H=>?_
 refine so<|wr 5 0<|go 3<|o8 1 [0] (cL 178) (nP.c (b:=b0_) (off:=0) (bT:=257) (qs:=[vI a0.fn.fv,vI a0.dZ]) (n:=a0.fn.fv) Q) ?_
 refine gq 1 ?_
 cases H.out; exact et () 1 [0] 0
theorem iw.c {p0_:OV} (h:iw.f a0=some r):Tr prog 53 [eq p0_.1] [bK.O p0_ a0] (γ:=Unit) (fun _=>True) (fun g=>vI r) (fun g=>[bK.O p0_ a0]):=by
 refine tf func53 h fun R0 F H=>?_
 refine so<|wr 6 0<|go 1<|Dv.pA bK.nn Q T Q (ab 0 Q)<|vg (bK.iM 0 Q) fun ga haa=>?_
 refine fp haa Q T Q BV<|gl 1 [0]<|vg (kJ.iM 1 Q) fun gb hac=>?_
 refine el H fun ta had H=>o8 4 [0,1,2,3] (cL 118) (Tr.jY (iO.c had (b0_:=gb)) (.cons (iD hac) .nil)) ?_
 refine go 1<|wg (kJ.shut (p:=ga.2.1) (m:=a0.iE) gb hac (pm 4 [0,1,2,3])) fun _ _=>?_
 refine wg (bK.shut (p:=p0_) (m:=a0) (ga.1,ga.2.1,ga.2.2.1,ga.2.2.2) haa (pm 4 [1,0,2,3])) fun _ _=>?_
 cases H.out; exact et () 1 [0] 0
theorem cC.c {p0_:OV} (h:cC.f k a0 a1=some r):Tr prog 54 [eq p0_.1,vI a1] [bK.O p0_ a0] (γ:=OV) (fun _=>True) (fun g=>eq g.1) (fun g=>[bK.O p0_ a0,own aC g.1 r]):=by
 refine tf func54 h fun R0 F H=>?_
 refine so<|wr 6 0<|go 1<|Dv.pA bK.nn Q T Q (ab 0 Q)<|vg (bK.iM 0 Q) fun ga haa=>?_
 refine fp haa Q T Q mT<|gl 1 [0]<|Dv.kG Q T Q (ab 2 Q) eh<|go 1<|WP.iQ H id (fun pa=>[(0,eq p0_.1),(5,vI pa.1)]) (fun pa=>[bK.O p0_ a0]++F) (fun pa H=>?_) (fun H=>?_)
 ·
  refine wr 9 128<|go 1<|Dv.pA bK.nn Q T Q (ab 0 Q)<|vg (bK.iM 0 Q) fun gb hac=>?_
  refine fp hac Q T Q mT<|gl 1 [0]<|Dv.kG Q T Q (ab 2 Q) eh<|go 2<|gr H fun gi H=>?_
  obtain ⟨ti1955,ti1955a,ti1955b,ti1955c,ti1955d⟩:=xH
  refine Dv.Gs (Kd:=aC) (eE:BA) Q T Q Q eh ti1955a ti1955b ti1955c ti1955d Q dc Q gi nofun (fun va=>?_)
  refine go 1<|wr 8 128<|go 2<|Dv.bZ hac Q T Q<|fp hac Q T Q mT<|gl 2 [1]<|gr H fun gj H=>Dv.slt (Kd:=aC) Q T Q (ab 3 Q) eh U9 c9 (fa Q gj.1) gj.2<|Dv.cpt (Kd:=aC) (jj:=0) Q T Q Q (ab 3 Q) Q eh U9 c9 gj.2 nofun<|.fin<|so<|wg (bK.shut (p:=p0_) (m:=a0) (gb.1,gb.2.1,gb.2.2.1,gb.2.2.2) hac (pm 5 [1,2,3,4,0])) fun _ _=>?_
  cases H.out; exact et va 2 [0,1] 0
 refine WP.block<|wg (bK.shut (p:=p0_) (m:=a0) (ga.1,ga.2.1,ga.2.2.1,ga.2.2.2) haa (pm 4 [0,1,2,3])) fun _ _=>?_
 refine ws 1 [0] 0 ?_
 refine lp (fun j_ (pc:Int)=>cC.l0 k a0 a1 j_ pc) (a0.eJ.length:Int) H (fun pc=>[(0,eq p0_.1),(1,vI a1),(5,vI pc)]) (fun pc=>[bK.O p0_ a0]++F) ?_
 rintro j_ xa H
 rcases j_ with _ | ja
 ·
  exact (aZ.no H).elim
 try dsimp only at H
 rw [cC.l0] at H
 refine WP.seq<|WP.seq<|wg (bK.iM 0 Q) fun gk had=>?_
 refine dg mX 19 0<|gp 3 ?_
 cases cc:decide (0<xa)
 ·
  have H:=H.cf cc
  refine go 16<|WP.cond Q nofun (fun _=>?_)
  refine WP.exit ?_
  have H:=H.out
  refine ng (bK.shut (p:=p0_) (m:=a0) (gk.1,gk.2.1,gk.2.2.1,gk.2.2.2) had (pm 4 [0,1,2,3])) fun _ _=>?_
  exact jn (xa,false) H
 have H:=H.ct cc
 refine go 1<|Dv.bZ had Q (gg Q) Q<|fp had Q (gg Q) Q yA<|gl 2 [0]<|Dv.bZ had Q (gg Q) Q<|fp had Q (gg Q) Q mT<|gl 3 [0]<|gr H fun gm H=>?_
 have hae:(ax (xa-1)).toNat<a0.eJ.length:=bC gm
 refine Dv.kF Q (gg Q) Q (ab 2 Q) Q eh U9 c9 gm.1 gm.2<|Dv.oH (j:=((ax (xa-1)).toNat)) (f:=0) (p:=vS (a0.eJ.getD ((ax (xa-1)).toNat) default)) Q (gg Q) Q (ab 2 Q) hae U9 Q Q<|Dv.Ep 0 Q (gg Q) Q (ab 3 Q) Q s7 (dR U9) z3 (fun _=>Q)<|go 3<|ce H ?_ ?_ <;> intro H
 ·
  refine WP.skip<|WP.block<|rg 3 0<|go 3<|ng (bK.shut (p:=p0_) (m:=a0) (gk.1,gk.2.1,gk.2.2.1,gk.2.2.2) had (pm 4 [0,1,2,3])) fun _ _=>?_
  exact bk ja (ax (xa-1)) H
 refine WP.exit ?_
 have H:=H.out
 refine ng (bK.shut (p:=p0_) (m:=a0) (gk.1,gk.2.1,gk.2.2.1,gk.2.2.2) had (pm 4 [0,1,2,3])) fun _ _=>?_
 exact jn (xa,decide (a1<((mget a0.nX (a0.eJ.getD ((ax (xa-1)).toNat) default)).getD 0))) H
theorem gC.c (h:gC.f a0 a1=some r):Pt prog 240 [vS a0,vS a1] (vI r):=by
 refine pf func240 h fun R0 F H=>?_
 refine so<|wr 4 0<|go 2<|el H fun ta haa H=>cl Q (cL 269) Q (ey.c haa)<|gq 1 ?_
 cases H.out; exact ek 0
theorem strings_Count.c (h:strings_Count.f k a0 a1=some r):Pt prog 239 [vS a0,vS a1] (vI r):=by
 refine pf func239 h fun R0 F H=>?_
 refine so<|WP.seq<|wr 3 0<|go 1<|Dv.lens Q T Q U9<|go 1<|ce H ?_ ?_ <;> intro H
 ·
  exact (aZ.no H).elim
 refine WP.skip<|WP.seq<|wr 3 0<|go 1<|Dv.lens Q T Q U9<|go 1<|ce H ?_ ?_ <;> intro H
 ·
  refine wr 5 0<|go 2<|gr H fun ga H=>Dv.qu Q T Q Q U9 ga.1 ga.2<|Dv.JR Q T Q (F3 func268 kr Q xf268 xg268)<|gq 1 ?_
  cases H.out; exact ek 0
 refine WP.skip<|so<|WP.block<|ws 0 [] 0 ?_
 refine lp (fun j_ (pa:BA×Int)=>strings_Count.l0 k a1 j_ pa.1 pa.2) (a0,0) H (fun pa=>[(0,vS pa.1),(1,vS a1),(5,vI pa.2)]) (fun pa=>F) ?_
 rintro j_ ⟨xa,xb⟩ H
 rcases j_ with _ | ja
 ·
  exact (aZ.no H).elim
 try dsimp only at H
 rw [strings_Count.l0] at H
 refine WP.block<|wr 4 0<|go 2<|el H fun ta haa H=>cl Q (cL 240) Q (gC.c haa)<|go 1<|WP.seq<|so<|ce H ?_ ?_ <;> intro H
 ·
  refine sp ?_
  cases H.out; exact ek 0
 exact WP.skip<|so<|rg 7 0<|go 3<|Dv.lens Q T Q U9<|go 1<|gr H fun gb H=>Dv.HO Q T Q U9 (fa Q gb.1) dG gb.2.1 gb.2.2<|go 1<|bk ja (xa.extract (ax (ta+(a1.size:Int))).toNat xa.size,ax (xb+1)) H
theorem strings_genSplit.c (h:strings_genSplit.f k a0 a1 a2 a3=some r):Tr prog 179 [vS a0,vS a1,vI a2,vI a3] [] (γ:=OV) (fun _=>True) (fun g=>eq g.1) (fun g=>[own aC g.1 r]):=by
 refine tf func179 h fun R0 F H=>?_
 refine so<|WP.seq<|so<|ce H ?_ ?_ <;> intro H
 ·
  refine so<|wg (eX aC none) fun _ _=>?_
  cases H.out; exact et l6 1 [0] 0
 refine WP.skip<|WP.seq<|so<|ce H ?_ ?_ <;> intro H
 ·
  exact (aZ.no H).elim
 refine WP.skip<|WP.iQ H id (fun pa=>[(0,vS a0),(1,vS a1),(2,vI a2),(3,vI pa)]) (fun pa=>F) (fun pa H=>?_) (fun H=>?_)
 rotate_left
 ·
  refine so<|ce H ?_ ?_ <;> intro H
  rotate_left
  ·
   refine WP.skip ?_
   have H:=H.out
   exact jn a3 H
  refine rg 5 0<|go 2<|el H fun ta haa H=>cl Q (cL 239) Q (strings_Count.c haa)<|gq 2 ?_
  have H:=H.out
  exact jn (ax (ta+1)) H
 refine wr 6 0<|go 2<|Dv.lens Q T Q U9<|go 1<|Dv.mini Q T Q Q<|go 1<|wr 3 2<|go 1<|gr H fun ga H=>?_
 obtain ⟨ti1985,ti1985a,ti1985b,ti1985c,ti1985d⟩:=xH
 refine Dv.Gs (Kd:=aC) (eE:BA) Q T Q Q eh ti1985a ti1985b ti1985c ti1985d Q dc Q ga nofun (fun va=>?_)
 refine go 1<|so<|so<|WP.iQ H id (fun pc=>[(0,vS pc.1),(9,eq va.1),(10,vI pc.2.1)]) (fun pc=>[own aC va.1 pc.2.2.2]++F) (fun pc H=>?_) (fun H=>?_)
 ·
  refine wr 5 16<|go 3<|gr H fun gb H=>?_
  have hac:pc.2.1.toNat<pc.2.2.2.length:=bC gb
  refine Dv.kF Q T Q (ab 0 Q) Q eh U9 c9 gb.1 gb.2<|Dv.Iy (j:=pc.2.1.toNat) (f:=0) (jj:=0) pc.1 Q T Q Q (cells_one (aj Q)) U9 c9 Q Q hac (Nat.le_of_ble_eq_true Q) Q nofun<|.fin<|wr 5 8<|go 3<|gr H fun gi H=>Dv.slo (jj:=0) Q T Q Q eh U9 c9 dG (fa Q gi.1) (.inl Q) gi.2.1 gi.2.2 nofun (fun vb=>?_)
  refine gq 1 ?_
  cases H.out; exact et vb 1 [0] 0
 refine WP.block<|ws 1 [0] 0 ?_
 refine lp (fun j_ (pe:BA×Int×(List BA))=>strings_genSplit.l0 k a0 a1 a2 pa j_ pe.1 pe.2.1 pe.2.2) (a0,0,List.replicate (min pa (ax ((a0.size:Int)+1))).toNat (eE:BA)) H (fun pe=>[(0,vS pe.1),(1,vS a1),(2,vI a2),(3,vI (ax ((min pa (ax ((a0.size:Int)+1)))-1))),(9,eq va.1),(10,vI pe.2.1)]) (fun pe=>[own aC va.1 pe.2.2]++F) ?_
 rintro j_ ⟨xa,xb,xc⟩ H
 rcases j_ with _ | ja
 ·
  exact (aZ.no H).elim
 try dsimp only at H
 rw [strings_genSplit.l0] at H
 refine WP.seq<|so<|ce H ?_ ?_ <;> intro H
 rotate_left
 ·
  refine WP.exit ?_
  have H:=H.out
  exact jn (xa,xb,decide (xb<(ax ((min pa (ax ((a0.size:Int)+1)))-1))),xc) H
 refine WP.skip<|WP.block<|wr 4 0<|go 2<|el H fun tc had H=>cl Q (cL 240) Q (gC.c had)<|go 1<|WP.seq<|so<|ce H ?_ ?_ <;> intro H
 ·
  refine WP.exit ?_
  have H:=H.out
  exact jn (xa,xb,decide (xb<(ax ((min pa (ax ((a0.size:Int)+1)))-1))),xc) H
 refine WP.skip<|wr 9 256<|go 6<|gr H fun gj H=>Dv.HO Q T Q U9 dG (fa Q gj.1) gj.2.1 gj.2.2<|gr H fun gk H=>?_
 have hae:xb.toNat<xc.length:=bC gk
 exact Dv.kF Q T Q (ab 0 Q) Q eh U9 c9 gk.1 gk.2<|Dv.Iy (j:=xb.toNat) (f:=0) (jj:=0) (xa.extract 0 ((ax (tc+a2)).toNat)) Q T Q Q (cells_one (aj Q)) U9 c9 Q Q hae (Nat.le_of_ble_eq_true Q) Q nofun<|.fin<|wr 7 0<|go 3<|Dv.lens Q T Q U9<|go 1<|gr H fun gm H=>Dv.HO Q T Q U9 (fa Q gm.1) dG gm.2.1 gm.2.2<|go 1<|rg 3 0<|go 3<|bk ja (xa.extract (ax (tc+(a1.size:Int))).toNat xa.size,ax (xb+1),xc.set xb.toNat (xa.extract 0 ((ax (tc+a2)).toNat))) H
theorem kQ.c (h:kQ.f k a0 a1=some r):Tr prog 119 [vS a0,vS a1] [] (γ:=OV) (fun _=>True) (fun g=>eq g.1) (fun g=>[own aC g.1 r]):=by
 refine tf func119 h fun R0 F H=>?_
 refine so<|wr 4 4<|go 2<|el H fun ta haa H=>cx 0 [] (cL 179) (strings_genSplit.c haa) nofun fun ga _=>?_
 refine gq 1 ?_
 cases H.out; exact et ga 1 [0] 0
theorem na.c (h:na.f k a0=some r):Pt prog 55 [vS a0] (jl.p r):=by
 refine pf func55 h fun R0 F H=>?_
 refine so<|wr 3 2<|go 1<|el H fun ta haa H=>cx 0 [] (cL 119) (kQ.c haa) nofun fun ga _=>?_
 refine go 1<|WP.seq<|WP.block<|wr 22 0<|go 1<|Dv.kG Q T Q (ab 0 Q) eh<|gp 2 ?_
 rcases bm H with ⟨cc,H⟩ | ⟨cc,H⟩
 ·
  refine sh 9 cc ?_
  refine sh 10 cc ?_
  refine go 18<|WP.cond Q nofun (fun _=>?_)
  refine wr 10 0<|go 1<|Dv.kG Q T Q (ab 0 Q) eh<|gp 2 ?_
  rcases bm H with ⟨cg,H⟩ | ⟨cg,H⟩
  ·
   refine sh 46 cg ?_
   refine sh 47 cg ?_
   refine go 6<|WP.cond Q nofun (fun _=>?_)
   refine wr 10 0<|go 1<|Dv.kG Q T Q (ab 0 Q) eh<|gp 2 ?_
   rcases bm H with ⟨ci,H⟩ | ⟨ci,H⟩
   ·
    refine sh 60 ci ?_
    refine sh 61 ci ?_
    refine go 6<|WP.cond Q nofun (fun _=>?_)
    refine WP.skip<|sp ?_
    cases H.out; exact ek 1
   refine sh 60 ci ?_
   refine sh 61 ci ?_
   refine go 1<|gr H fun gb H=>?_
   have hac:(0:Int).toNat<ta.length:=bC gb
   refine Dv.kF Q (gg Q) Q (ab 0 Q) Q eh U9 c9 gb.1 gb.2<|Dv.oH (j:=((0:Int).toNat)) (f:=0) (p:=vS (ta.getD ((0:Int).toNat) default)) Q (gg Q) Q (ab 0 Q) hac U9 Q Q<|go 3<|ce H ?_ ?_ <;> intro H
   rotate_left
   ·
    refine WP.skip<|sp ?_
    cases H.out; exact ek 1
   refine wr 5 0<|go 1<|gr H fun gi H=>?_
   have had:(1:Int).toNat<ta.length:=bC gi
   refine Dv.kF Q T Q (ab 0 Q) Q eh U9 c9 gi.1 gi.2<|Dv.oH (j:=((1:Int).toNat)) (f:=0) (p:=vS (ta.getD ((1:Int).toNat) default)) Q T Q (ab 0 Q) had U9 Q Q<|Dv.EL Q T Q rO<|gq 1 ?_
   cases H.out; exact ek 1
  refine sh 46 cg ?_
  refine sh 47 cg ?_
  refine go 1<|gr H fun gj H=>?_
  have hae:(0:Int).toNat<ta.length:=bC gj
  refine Dv.kF Q (gg Q) Q (ab 0 Q) Q eh U9 c9 gj.1 gj.2<|Dv.oH (j:=((0:Int).toNat)) (f:=0) (p:=vS (ta.getD ((0:Int).toNat) default)) Q (gg Q) Q (ab 0 Q) hae U9 Q Q<|go 3<|ce H ?_ ?_ <;> intro H
  ·
   refine wr 5 0<|go 1<|gr H fun gk H=>?_
   have haf:(1:Int).toNat<ta.length:=bC gk
   refine Dv.kF Q T Q (ab 0 Q) Q eh U9 c9 gk.1 gk.2<|Dv.oH (j:=((1:Int).toNat)) (f:=0) (p:=vS (ta.getD ((1:Int).toNat) default)) Q T Q (ab 0 Q) haf U9 Q Q<|Dv.EL Q T Q Bt<|gq 1 ?_
   cases H.out; exact ek 1
  refine wr 10 0<|go 1<|Dv.kG Q T Q (ab 0 Q) eh<|gp 2 ?_
  rcases bm H with ⟨cj,H⟩ | ⟨cj,H⟩
  ·
   refine sh 60 cj ?_
   refine sh 61 cj ?_
   refine go 6<|WP.cond Q nofun (fun _=>?_)
   refine WP.skip<|sp ?_
   cases H.out; exact ek 1
  refine sh 60 cj ?_
  refine sh 61 cj ?_
  refine go 1<|gr H fun gm H=>?_
  have hag:(0:Int).toNat<ta.length:=bC gm
  refine Dv.kF Q (gg Q) Q (ab 0 Q) Q eh U9 c9 gm.1 gm.2<|Dv.oH (j:=((0:Int).toNat)) (f:=0) (p:=vS (ta.getD ((0:Int).toNat) default)) Q (gg Q) Q (ab 0 Q) hag U9 Q Q<|go 3<|ce H ?_ ?_ <;> intro H
  rotate_left
  ·
   refine WP.skip<|sp ?_
   cases H.out; exact ek 1
  refine wr 5 0<|go 1<|gr H fun gn H=>?_
  have hah:(1:Int).toNat<ta.length:=bC gn
  refine Dv.kF Q T Q (ab 0 Q) Q eh U9 c9 gn.1 gn.2<|Dv.oH (j:=((1:Int).toNat)) (f:=0) (p:=vS (ta.getD ((1:Int).toNat) default)) Q T Q (ab 0 Q) hah U9 Q Q<|Dv.EL Q T Q rO<|gq 1 ?_
  cases H.out; exact ek 1
 refine sh 9 cc ?_
 refine sh 10 cc ?_
 refine go 1<|gr H fun gu H=>?_
 have hai:(0:Int).toNat<ta.length:=bC gu
 refine Dv.kF Q (gg Q) Q (ab 0 Q) Q eh U9 c9 gu.1 gu.2<|Dv.oH (j:=((0:Int).toNat)) (f:=0) (p:=vS (ta.getD ((0:Int).toNat) default)) Q (gg Q) Q (ab 0 Q) hai U9 Q Q<|gp 3 ?_
 rcases bm H with ⟨ck,H⟩ | ⟨ck,H⟩
 ·
  refine sh 14 ck ?_
  refine sh 15 ck ?_
  refine sh 16 ck ?_
  refine go 12<|WP.cond Q nofun (fun _=>?_)
  refine wr 10 0<|go 1<|Dv.kG Q T Q (ab 0 Q) eh<|gp 2 ?_
  rcases bm H with ⟨cn,H⟩ | ⟨cn,H⟩
  ·
   refine sh 46 cn ?_
   refine sh 47 cn ?_
   refine go 6<|WP.cond Q nofun (fun _=>?_)
   refine wr 10 0<|go 1<|Dv.kG Q T Q (ab 0 Q) eh<|gp 2 ?_
   rcases bm H with ⟨co,H⟩ | ⟨co,H⟩
   ·
    refine sh 60 co ?_
    refine sh 61 co ?_
    refine go 6<|WP.cond Q nofun (fun _=>?_)
    refine WP.skip<|sp ?_
    cases H.out; exact ek 1
   refine sh 60 co ?_
   refine sh 61 co ?_
   refine go 1<|gr H fun gv H=>?_
   have haj:(0:Int).toNat<ta.length:=bC gv
   refine Dv.kF Q (gg Q) Q (ab 0 Q) Q eh U9 c9 gv.1 gv.2<|Dv.oH (j:=((0:Int).toNat)) (f:=0) (p:=vS (ta.getD ((0:Int).toNat) default)) Q (gg Q) Q (ab 0 Q) haj U9 Q Q<|go 3<|ce H ?_ ?_ <;> intro H
   rotate_left
   ·
    refine WP.skip<|sp ?_
    cases H.out; exact ek 1
   refine wr 5 0<|go 1<|gr H fun gw H=>?_
   have hak:(1:Int).toNat<ta.length:=bC gw
   refine Dv.kF Q T Q (ab 0 Q) Q eh U9 c9 gw.1 gw.2<|Dv.oH (j:=((1:Int).toNat)) (f:=0) (p:=vS (ta.getD ((1:Int).toNat) default)) Q T Q (ab 0 Q) hak U9 Q Q<|Dv.EL Q T Q rO<|gq 1 ?_
   cases H.out; exact ek 1
  refine sh 46 cn ?_
  refine sh 47 cn ?_
  refine go 1<|gr H fun gy H=>?_
  have ham:(0:Int).toNat<ta.length:=bC gy
  refine Dv.kF Q (gg Q) Q (ab 0 Q) Q eh U9 c9 gy.1 gy.2<|Dv.oH (j:=((0:Int).toNat)) (f:=0) (p:=vS (ta.getD ((0:Int).toNat) default)) Q (gg Q) Q (ab 0 Q) ham U9 Q Q<|go 3<|ce H ?_ ?_ <;> intro H
  ·
   refine wr 5 0<|go 1<|gr H fun gz H=>?_
   have han:(1:Int).toNat<ta.length:=bC gz
   refine Dv.kF Q T Q (ab 0 Q) Q eh U9 c9 gz.1 gz.2<|Dv.oH (j:=((1:Int).toNat)) (f:=0) (p:=vS (ta.getD ((1:Int).toNat) default)) Q T Q (ab 0 Q) han U9 Q Q<|Dv.EL Q T Q Bt<|gq 1 ?_
   cases H.out; exact ek 1
  refine wr 10 0<|go 1<|Dv.kG Q T Q (ab 0 Q) eh<|gp 2 ?_
  rcases bm H with ⟨cp,H⟩ | ⟨cp,H⟩
  ·
   refine sh 60 cp ?_
   refine sh 61 cp ?_
   refine go 6<|WP.cond Q nofun (fun _=>?_)
   refine WP.skip<|sp ?_
   cases H.out; exact ek 1
  refine sh 60 cp ?_
  refine sh 61 cp ?_
  refine go 1<|gr H fun gaa H=>?_
  have hao:(0:Int).toNat<ta.length:=bC gaa
  refine Dv.kF Q (gg Q) Q (ab 0 Q) Q eh U9 c9 gaa.1 gaa.2<|Dv.oH (j:=((0:Int).toNat)) (f:=0) (p:=vS (ta.getD ((0:Int).toNat) default)) Q (gg Q) Q (ab 0 Q) hao U9 Q Q<|go 3<|ce H ?_ ?_ <;> intro H
  rotate_left
  ·
   refine WP.skip<|sp ?_
   cases H.out; exact ek 1
  refine wr 5 0<|go 1<|gr H fun gab H=>?_
  have hap:(1:Int).toNat<ta.length:=bC gab
  refine Dv.kF Q T Q (ab 0 Q) Q eh U9 c9 gab.1 gab.2<|Dv.oH (j:=((1:Int).toNat)) (f:=0) (p:=vS (ta.getD ((1:Int).toNat) default)) Q T Q (ab 0 Q) hap U9 Q Q<|Dv.EL Q T Q rO<|gq 1 ?_
  cases H.out; exact ek 1
 refine sh 14 ck ?_
 refine sh 15 ck ?_
 refine sh 16 ck ?_
 refine go 1<|gr H fun gac H=>?_
 have haq:(4:Int).toNat<ta.length:=bC gac
 refine Dv.kF Q (gg Q) Q (ab 0 Q) Q eh U9 c9 gac.1 gac.2<|Dv.oH (j:=((4:Int).toNat)) (f:=0) (p:=vS (ta.getD ((4:Int).toNat) default)) Q (gg Q) Q (ab 0 Q) haq U9 Q Q<|gp 2 ?_
 rcases bm H with ⟨cq,H⟩ | ⟨cq,H⟩
 rotate_left
 ·
  refine sh 20 cq ?_
  refine sh 21 cq ?_
  refine go 7<|WP.cond Q (fun _=>?_) nofun
  refine wd mX 16 0<|go 1<|gr H fun gad H=>?_
  have har:(1:Int).toNat<ta.length:=bC gad
  refine Dv.kF Q T Q (ab 0 Q) Q eh U9 c9 gad.1 gad.2<|Dv.oH (j:=((1:Int).toNat)) (f:=0) (p:=vS (ta.getD ((1:Int).toNat) default)) Q T Q (ab 0 Q) har U9 Q Q<|go 1<|gr H fun gae H=>?_
  have has:(2:Int).toNat<ta.length:=bC gae
  refine Dv.kF Q T Q (ab 0 Q) Q eh U9 c9 gae.1 gae.2<|Dv.oH (j:=((2:Int).toNat)) (f:=0) (p:=vS (ta.getD ((2:Int).toNat) default)) Q T Q (ab 0 Q) has U9 Q Q<|go 1<|gr H fun gaf H=>?_
  have hau:(3:Int).toNat<ta.length:=bC gaf
  refine Dv.kF Q T Q (ab 0 Q) Q eh U9 c9 gaf.1 gaf.2<|Dv.oH (j:=((3:Int).toNat)) (f:=0) (p:=vS (ta.getD ((3:Int).toNat) default)) Q T Q (ab 0 Q) hau U9 Q Q<|go 1<|gr H fun gag H=>?_
  have hav:(4:Int).toNat<ta.length:=bC gag
  refine Dv.kF Q T Q (ab 0 Q) Q eh U9 c9 gag.1 gag.2<|Dv.oH (j:=((4:Int).toNat)) (f:=0) (p:=vS (ta.getD ((4:Int).toNat) default)) Q T Q (ab 0 Q) hav U9 Q Q<|go 1<|Dv.lx (qs:=[vS (ta.getD ((1:Int).toNat) default),vS (ta.getD ((2:Int).toNat) default),vS (ta.getD ((3:Int).toNat) default),vB (decide ((ta.getD ((4:Int).toNat) default)=(⟨#[49]⟩:BA)))]) (css:=[[vS (ta.getD ((1:Int).toNat) default)],[vS (ta.getD ((2:Int).toNat) default)],[vS (ta.getD ((3:Int).toNat) default)],[vB (decide ((ta.getD ((4:Int).toNat) default)=(⟨#[49]⟩:BA)))]]) Q T J2 IA z89 Q ⟨(cells_one (aj Q)),⟨(cells_one (aj Q)),⟨(cells_one (aj Q)),⟨(cells_one (aj Q)),T⟩⟩⟩⟩ Q Q<|Dv.EL Q T Q Jb<|gq 1 ?_
  cases H.out; exact ek 1
 refine sh 20 cq ?_
 refine sh 21 cq ?_
 refine go 1<|gr H fun gah H=>?_
 have haw:(4:Int).toNat<ta.length:=bC gah
 refine Dv.kF Q (gg Q) Q (ab 0 Q) Q eh U9 c9 gah.1 gah.2<|Dv.oH (j:=((4:Int).toNat)) (f:=0) (p:=vS (ta.getD ((4:Int).toNat) default)) Q (gg Q) Q (ab 0 Q) haw U9 Q Q<|go 4<|ce H ?_ ?_ <;> intro H
 ·
  refine wd mX 16 0<|go 1<|gr H fun gai H=>?_
  have hax:(1:Int).toNat<ta.length:=bC gai
  refine Dv.kF Q T Q (ab 0 Q) Q eh U9 c9 gai.1 gai.2<|Dv.oH (j:=((1:Int).toNat)) (f:=0) (p:=vS (ta.getD ((1:Int).toNat) default)) Q T Q (ab 0 Q) hax U9 Q Q<|go 1<|gr H fun gaj H=>?_
  have hay:(2:Int).toNat<ta.length:=bC gaj
  refine Dv.kF Q T Q (ab 0 Q) Q eh U9 c9 gaj.1 gaj.2<|Dv.oH (j:=((2:Int).toNat)) (f:=0) (p:=vS (ta.getD ((2:Int).toNat) default)) Q T Q (ab 0 Q) hay U9 Q Q<|go 1<|gr H fun gak H=>?_
  have haz:(3:Int).toNat<ta.length:=bC gak
  refine Dv.kF Q T Q (ab 0 Q) Q eh U9 c9 gak.1 gak.2<|Dv.oH (j:=((3:Int).toNat)) (f:=0) (p:=vS (ta.getD ((3:Int).toNat) default)) Q T Q (ab 0 Q) haz U9 Q Q<|go 1<|gr H fun gal H=>?_
  have hbe:(4:Int).toNat<ta.length:=bC gal
  refine Dv.kF Q T Q (ab 0 Q) Q eh U9 c9 gal.1 gal.2<|Dv.oH (j:=((4:Int).toNat)) (f:=0) (p:=vS (ta.getD ((4:Int).toNat) default)) Q T Q (ab 0 Q) hbe U9 Q Q<|go 1<|Dv.lx (qs:=[vS (ta.getD ((1:Int).toNat) default),vS (ta.getD ((2:Int).toNat) default),vS (ta.getD ((3:Int).toNat) default),vB (decide ((ta.getD ((4:Int).toNat) default)=(⟨#[49]⟩:BA)))]) (css:=[[vS (ta.getD ((1:Int).toNat) default)],[vS (ta.getD ((2:Int).toNat) default)],[vS (ta.getD ((3:Int).toNat) default)],[vB (decide ((ta.getD ((4:Int).toNat) default)=(⟨#[49]⟩:BA)))]]) Q T J2 IA z89 Q ⟨(cells_one (aj Q)),⟨(cells_one (aj Q)),⟨(cells_one (aj Q)),⟨(cells_one (aj Q)),T⟩⟩⟩⟩ Q Q<|Dv.EL Q T Q Jb<|gq 1 ?_
  cases H.out; exact ek 1
 refine wr 10 0<|go 1<|Dv.kG Q T Q (ab 0 Q) eh<|gp 2 ?_
 rcases bm H with ⟨cr,H⟩ | ⟨cr,H⟩
 ·
  refine sh 46 cr ?_
  refine sh 47 cr ?_
  refine go 6<|WP.cond Q nofun (fun _=>?_)
  refine wr 10 0<|go 1<|Dv.kG Q T Q (ab 0 Q) eh<|gp 2 ?_
  rcases bm H with ⟨cu,H⟩ | ⟨cu,H⟩
  ·
   refine sh 60 cu ?_
   refine sh 61 cu ?_
   refine go 6<|WP.cond Q nofun (fun _=>?_)
   refine WP.skip<|sp ?_
   cases H.out; exact ek 1
  refine sh 60 cu ?_
  refine sh 61 cu ?_
  refine go 1<|gr H fun gam H=>?_
  have hbf:(0:Int).toNat<ta.length:=bC gam
  refine Dv.kF Q (gg Q) Q (ab 0 Q) Q eh U9 c9 gam.1 gam.2<|Dv.oH (j:=((0:Int).toNat)) (f:=0) (p:=vS (ta.getD ((0:Int).toNat) default)) Q (gg Q) Q (ab 0 Q) hbf U9 Q Q<|go 3<|ce H ?_ ?_ <;> intro H
  rotate_left
  ·
   refine WP.skip<|sp ?_
   cases H.out; exact ek 1
  refine wr 5 0<|go 1<|gr H fun gan H=>?_
  have hbg:(1:Int).toNat<ta.length:=bC gan
  refine Dv.kF Q T Q (ab 0 Q) Q eh U9 c9 gan.1 gan.2<|Dv.oH (j:=((1:Int).toNat)) (f:=0) (p:=vS (ta.getD ((1:Int).toNat) default)) Q T Q (ab 0 Q) hbg U9 Q Q<|Dv.EL Q T Q rO<|gq 1 ?_
  cases H.out; exact ek 1
 refine sh 46 cr ?_
 refine sh 47 cr ?_
 refine go 1<|gr H fun gao H=>?_
 have hbh:(0:Int).toNat<ta.length:=bC gao
 refine Dv.kF Q (gg Q) Q (ab 0 Q) Q eh U9 c9 gao.1 gao.2<|Dv.oH (j:=((0:Int).toNat)) (f:=0) (p:=vS (ta.getD ((0:Int).toNat) default)) Q (gg Q) Q (ab 0 Q) hbh U9 Q Q<|go 3<|ce H ?_ ?_ <;> intro H
 ·
  refine wr 5 0<|go 1<|gr H fun gap H=>?_
  have hbi:(1:Int).toNat<ta.length:=bC gap
  refine Dv.kF Q T Q (ab 0 Q) Q eh U9 c9 gap.1 gap.2<|Dv.oH (j:=((1:Int).toNat)) (f:=0) (p:=vS (ta.getD ((1:Int).toNat) default)) Q T Q (ab 0 Q) hbi U9 Q Q<|Dv.EL Q T Q Bt<|gq 1 ?_
  cases H.out; exact ek 1
 refine wr 10 0<|go 1<|Dv.kG Q T Q (ab 0 Q) eh<|gp 2 ?_
 rcases bm H with ⟨cw,H⟩ | ⟨cw,H⟩
 ·
  refine sh 60 cw ?_
  refine sh 61 cw ?_
  refine go 6<|WP.cond Q nofun (fun _=>?_)
  refine WP.skip<|sp ?_
  cases H.out; exact ek 1
 refine sh 60 cw ?_
 refine sh 61 cw ?_
 refine go 1<|gr H fun gaq H=>?_
 have hbj:(0:Int).toNat<ta.length:=bC gaq
 refine Dv.kF Q (gg Q) Q (ab 0 Q) Q eh U9 c9 gaq.1 gaq.2<|Dv.oH (j:=((0:Int).toNat)) (f:=0) (p:=vS (ta.getD ((0:Int).toNat) default)) Q (gg Q) Q (ab 0 Q) hbj U9 Q Q<|go 3<|ce H ?_ ?_ <;> intro H
 rotate_left
 ·
  refine WP.skip<|sp ?_
  cases H.out; exact ek 1
 refine wr 5 0<|go 1<|gr H fun gar H=>?_
 have hbl:(1:Int).toNat<ta.length:=bC gar
 refine Dv.kF Q T Q (ab 0 Q) Q eh U9 c9 gar.1 gar.2<|Dv.oH (j:=((1:Int).toNat)) (f:=0) (p:=vS (ta.getD ((1:Int).toNat) default)) Q T Q (ab 0 Q) hbl U9 Q Q<|Dv.EL Q T Q rO<|gq 1 ?_
 cases H.out; exact ek 1
theorem fR.c {p0_:OV} (h:fR.f a0 a1=some r):Tr prog 120 [eq p0_.1,agg (bz.enc a1)] [jT.O p0_ a0] (γ:=Unit) (fun _=>True) (fun g=>kR [agg (Pos.enc r.1),vB r.2]) (fun g=>[jT.O p0_ a0]):=by
 refine tf func120 h fun R0 F H=>?_
 refine wr 3 3<|Dv.box Q T Q cA nofun fun ba=>al Q T s6 nofun fun bc=>go 1<|WP.seq<|wg (jT.iM 2 Q) fun ga haa=>?_
 refine dg mX 12 1536<|go 1<|Dv.bZ haa Q T Q<|fp haa Q T Q tO<|gl 2 [0,3]<|Dv.mlkq (⟨0,eE⟩:Pos) Q T Q (ab 1 Q) Q (bz.kq a1) Gl CQ IK (fun _=>⟨_,Q,Cs.eqz Q⟩)<|go 1<|eD Q T Q Q<|eD Q T Q Q<|al Q T s6 pD fun bd=>sx 0 Q T Q Q cA Eu Q Q Q pD ?_
 refine go 1<|wr 4 4<|gl 2 [0]<|sy 3 ?_
 refine go 1<|wg (jT.shut (p:=p0_) (m:=a0) (ga.1,ga.2) haa (pm 5 [1,2,0,3,4])) fun _ _=>?_
 cases H.out; exact rt i2 Q () 4 [1,2,3,0] 3 (.cons (aw Q yr Q B1 (ab 2 Q) Q) (.cons (aG Q) .nil))
theorem gK.c {p0_0 p0_1 p0_2 p0_3 p0_4:OV} (h:gK.f k a0 a1 a2=some r):Tr prog 56 [agg [eq p0_0.1,eq p0_1.1,eq p0_2.1,eq p0_3.1,eq p0_4.1],agg (bz.enc a1),vS a2] [aH.O p0_0 a0.cK,gW.O p0_1 a0.bu,bH.O p0_2 a0.aW,bM.O p0_3 a0.aY,bK.O p0_4 a0.gG] (γ:=Unit) (fun _=>True) (fun g=>kR [agg (jZ.enc r.1),vB r.2]) (fun g=>[aH.O p0_0 a0.cK,gW.O p0_1 a0.bu,bH.O p0_2 a0.aW,bM.O p0_3 a0.aY,bK.O p0_4 a0.gG]):=by
 refine tf func56 h fun R0 F H=>?_
 refine wr 4 7<|Dv.box Q T Q cA nofun fun ba=>Dv.box Q T Q cA nofun fun bc=>al Q T Ki nofun fun bd=>go 1<|WP.seq<|wg (gW.iM 4 Q) fun ga haa=>?_
 refine WP.dgf (kf:=10) mX [(0,false),(1,false),(2,false),(3,false),(4,false),(5,false),(6,true),(7,false),(8,false),(9,false)] [(11,true),(12,false)] Q kr<|gl 2 [5]<|Dv.bZ haa Q T Q<|fp haa Q T Q Ce<|gl 2 [0,4]<|Dv.float ?_ (fun hk_=>?_)
 ·
  refine Cg Q T s6 pU (fun be=>?_)
  refine el H fun ta hac H=>cx 11 [2,0,1,3,4,5,6,7,8,9,10] (cL 120) (fR.c hac (p0_:=ga.2.1)) pC fun _ _=>?_
  refine go 1<|eD Q T Q Q<|eD Q T Q Q<|sx 1 Q T Q Q cA Eu Q Q Q pD ?_
  refine go 1<|WP.seq<|wg (aH.iM 7 Q) fun gb had=>?_
  refine dg mX 25 8388608<|gl 2 [7,3]<|Dv.lx (qs:=[vS a1.aa,vS a1.ak,vS a1.ag,vB a1.au,vI ta.1.bJ,vS ta.1.b9]) (css:=[bz.enc a1,Pos.enc ta.1]) Q T CP pl91 z91 Q ⟨(bn (bz.K.one _)),⟨(bn (Pos.K.one _)),T⟩⟩ Q Q<|gp 2 ?_
  cases cc:ta.2
  ·
   have H:=H.cf cc
   refine go 18<|sx 6 Q T Q Q cA yM Q Q Q pD ?_
   refine go 1<|wg (gW.shut (p:=p0_1) (m:=a0.bu) (ga.1,ga.2.1,ga.2.2) haa (pm 12 [4,2,5,0,1,3,6,7,8,9,10,11])) fun _ _=>?_
   refine wg (aH.shut (p:=p0_0) (m:=a0.cK) (gb.1,gb.2) had (pm 10 [1,2,0,3,4,5,6,7,8,9])) fun _ _=>?_
   cases H.out; exact rt i2 Q () 9 [2,3,4,5,0,1,6,7,8] 4 (.cons (aw Q CP Q DS (ab 3 Q) Q) (.cons (aG Q) .nil))
  have H:=H.ct cc
  refine gl 5 [8,7]<|el H fun tc hae H=>o8 12 [0,1,2,3,4,5,6,7,8,9,10,11] (cL 57) (Tr.jY (bN.c hae (b0_:=gb.1) (v0_0:=gb.2)) (.cons (iD had) (.cons cG (.cons cG .nil)))) ?_
  refine gp 2 ?_
  cases cg:tc
  ·
   have H:=H.cf cg
   refine go 10<|sx 6 Q T Q Q cA yM Q Q Q pD ?_
   refine go 1<|wg (gW.shut (p:=p0_1) (m:=a0.bu) (ga.1,ga.2.1,ga.2.2) haa (pm 12 [4,2,5,0,1,3,6,7,8,9,10,11])) fun _ _=>?_
   refine wg (aH.shut (p:=p0_0) (m:=a0.cK) (gb.1,gb.2) had (pm 10 [1,2,0,3,4,5,6,7,8,9])) fun _ _=>?_
   cases H.out; exact rt i2 Q () 9 [2,3,4,5,0,1,6,7,8] 4 (.cons (aw Q CP Q DS (ab 3 Q) Q) (.cons (aG Q) .nil))
  have H:=H.ct cg
  refine kW 4 [7] ?_
  cases ci:!a1.au
  rotate_left
  ·
   have H:=H.ct ci
   refine go 6<|sx 6 Q T Q Q cA yM Q Q Q pD ?_
   refine go 1<|wg (gW.shut (p:=p0_1) (m:=a0.bu) (ga.1,ga.2.1,ga.2.2) haa (pm 12 [4,2,5,0,1,3,6,7,8,9,10,11])) fun _ _=>?_
   refine wg (aH.shut (p:=p0_0) (m:=a0.cK) (gb.1,gb.2) had (pm 10 [1,2,0,3,4,5,6,7,8,9])) fun _ _=>?_
   cases H.out; exact rt i2 Q () 9 [2,3,4,5,0,1,6,7,8] 4 (.cons (aw Q CP Q DS (ab 3 Q) Q) (.cons (aG Q) .nil))
  have H:=H.cf ci
  refine gl 6 [7]<|sx 6 Q T Q Q cA yM Q Q Q pD ?_
  refine go 1<|wg (gW.shut (p:=p0_1) (m:=a0.bu) (ga.1,ga.2.1,ga.2.2) haa (pm 12 [4,2,5,0,1,3,6,7,8,9,10,11])) fun _ _=>?_
  refine wg (aH.shut (p:=p0_0) (m:=a0.cK) (gb.1,gb.2) had (pm 10 [1,2,0,3,4,5,6,7,8,9])) fun _ _=>?_
  cases H.out; exact rt i2 Q () 9 [2,3,4,5,0,1,6,7,8] 4 (.cons (aw Q CP Q DS (ab 3 Q) Q) (.cons (aG Q) .nil))
 refine el H fun te haf H=>cx 10 [1,0,2,3,4,5,6,7,8,9] (cL 120) (fR.c haf (p0_:=ga.2.1)) pC fun _ _=>?_
 refine go 1<|eD Q T Q Q<|eD Q T Q Q<|.fin<|Cg Q T s6 pU (fun bg=>?_)
 refine sx 0 Q T Q Q cA Eu Q Q Q pD ?_
 refine go 1<|WP.seq<|wg (aH.iM 7 Q) fun gb had=>?_
 refine dg mX 25 8388608<|gl 2 [7,2]<|Dv.lx (qs:=[vS a1.aa,vS a1.ak,vS a1.ag,vB a1.au,vI te.1.bJ,vS te.1.b9]) (css:=[bz.enc a1,Pos.enc te.1]) Q T CP pl91 z91 Q ⟨(bn (bz.K.one _)),⟨(bn (Pos.K.one _)),T⟩⟩ Q Q<|gp 2 ?_
 cases cc:te.2
 ·
  have H:=H.cf cc
  refine go 18<|sx 6 Q T Q Q cA yM Q Q Q pD ?_
  refine go 1<|wg (gW.shut (p:=p0_1) (m:=a0.bu) (ga.1,ga.2.1,ga.2.2) haa (pm 12 [4,3,5,0,1,2,6,7,8,9,10,11])) fun _ _=>?_
  refine wg (aH.shut (p:=p0_0) (m:=a0.cK) (gb.1,gb.2) had (pm 10 [1,2,0,3,4,5,6,7,8,9])) fun _ _=>?_
  cases H.out; exact rt i2 Q () 9 [2,3,4,5,0,1,6,7,8] 4 (.cons (aw Q CP Q DS (ab 3 Q) Q) (.cons (aG Q) .nil))
 have H:=H.ct cc
 refine gl 5 [8,7]<|el H fun tc hae H=>o8 12 [0,1,2,3,4,5,6,7,8,9,10,11] (cL 57) (Tr.jY (bN.c hae (b0_:=gb.1) (v0_0:=gb.2)) (.cons (iD had) (.cons cG (.cons cG .nil)))) ?_
 refine gp 2 ?_
 cases cg:tc
 ·
  have H:=H.cf cg
  refine go 10<|sx 6 Q T Q Q cA yM Q Q Q pD ?_
  refine go 1<|wg (gW.shut (p:=p0_1) (m:=a0.bu) (ga.1,ga.2.1,ga.2.2) haa (pm 12 [4,3,5,0,1,2,6,7,8,9,10,11])) fun _ _=>?_
  refine wg (aH.shut (p:=p0_0) (m:=a0.cK) (gb.1,gb.2) had (pm 10 [1,2,0,3,4,5,6,7,8,9])) fun _ _=>?_
  cases H.out; exact rt i2 Q () 9 [2,3,4,5,0,1,6,7,8] 4 (.cons (aw Q CP Q DS (ab 3 Q) Q) (.cons (aG Q) .nil))
 have H:=H.ct cg
 refine kW 4 [7] ?_
 cases ci:!a1.au
 rotate_left
 ·
  have H:=H.ct ci
  refine go 6<|sx 6 Q T Q Q cA yM Q Q Q pD ?_
  refine go 1<|wg (gW.shut (p:=p0_1) (m:=a0.bu) (ga.1,ga.2.1,ga.2.2) haa (pm 12 [4,3,5,0,1,2,6,7,8,9,10,11])) fun _ _=>?_
  refine wg (aH.shut (p:=p0_0) (m:=a0.cK) (gb.1,gb.2) had (pm 10 [1,2,0,3,4,5,6,7,8,9])) fun _ _=>?_
  cases H.out; exact rt i2 Q () 9 [2,3,4,5,0,1,6,7,8] 4 (.cons (aw Q CP Q DS (ab 3 Q) Q) (.cons (aG Q) .nil))
 have H:=H.cf ci
 refine gl 6 [7]<|sx 6 Q T Q Q cA yM Q Q Q pD ?_
 refine go 1<|wg (gW.shut (p:=p0_1) (m:=a0.bu) (ga.1,ga.2.1,ga.2.2) haa (pm 12 [4,3,5,0,1,2,6,7,8,9,10,11])) fun _ _=>?_
 refine wg (aH.shut (p:=p0_0) (m:=a0.cK) (gb.1,gb.2) had (pm 10 [1,2,0,3,4,5,6,7,8,9])) fun _ _=>?_
 cases H.out; exact rt i2 Q () 9 [2,3,4,5,0,1,6,7,8] 4 (.cons (aw Q CP Q DS (ab 3 Q) Q) (.cons (aG Q) .nil))
theorem slices_Sort_string.c {p0_:OV} (h:slices_Sort_string.f a0=some r):Tr prog 242 [eq p0_.1] [own aC p0_.1 a0] (γ:=Unit) (fun _=>True) (fun g=>kR []) (fun g=>[own aC p0_.1 r]):=by
 unfold slices_Sort_string.f at h
 obtain ⟨h0,h5⟩:=(aZ.of h).aq
 obtain rfl:=aZ.out h5
 exact HX (fun ay off cap ss w=>Go.Proofs.Any.slices_Sort_string Tryz.lays190 ay off cap ss w) (fun q cap w=>Go.Proofs.Any.slices_Sort_string_none Tryz.lays190 q cap w) h0
theorem fU.c {b0_:Nat} {v0_0:OV} (h:fU.f a0=some r):Tr prog 181 [bO b0_] [ay b0_ 186 [eq v0_0.1],kh Value.string bf.O v0_0.1 a0.bx] (γ:=OV) (fun _=>True) (fun g=>eq g.1) (fun g=>[ay b0_ 186 [eq v0_0.1],kh Value.string bf.O v0_0.1 a0.bx,own aC g.1 r]):=by
  unfold fU.f at h
  obtain ⟨h0,h5⟩:=(aZ.of h).aq
  obtain rfl:=aZ.out h5
  clear h h5
  refine Tr.body func181 (c:=_) Q ntmps181 (Nat.le_of_ble_eq_true Q) fun R0 F=>?_
  refine so<|sp ?_
  refine WP.EJ (β:=List Nat×OV) (fun b=>b.1.Perm (List.range a0.bx.length)) (fun b=>[(3,eq b.2.1)]) (fun b=>[own aC b.2.1 (kI a0.bx (fun e=>some e.1) b.1),ay b0_ 186 [eq v0_0.1],kh Value.string bf.O v0_0.1 a0.bx]++F) (fun b hb=>?_) ?_
  rotate_left
  · refine wr 5 16<|kW 4 [0] ?_
    refine Dv.gh (l':=fun ps:List OV=>[mp Value.string (fun p:OV=>eq p.1) v0_0.1 (cY a0.bx ps),qF bf.O a0.bx ps,ay b0_ 186 [eq v0_0.1]]++F) (iR (mq 1 Q)) (fun ps hps=>?_)
    refine Dv.rgb (jj:=0) Q T Q Q CW nofun (fun q=>.fin ?_)
    refine WP.gh (l':=fun _:Unit=>[s9 Value.string (fun p:OV=>eq p.1) v0_0.1 q.1 (cY a0.bx ps) [],qF bf.O a0.bx ps,ay b0_ 186 [eq v0_0.1]]++F) (iR (ok:=fun _=>True) fun R w k=>⟨(),T,k⟩) (fun _ _=>?_)
    refine WP.gh (l':=fun _:Unit=>[own aC l6.1 [],s9 Value.string (fun p:OV=>eq p.1) v0_0.1 q.1 (cY a0.bx ps) [],qF bf.O a0.bx ps,ay b0_ 186 [eq v0_0.1]]++F) (iR (eX aC none)) (fun _ _=>?_)
    refine WP.block ?_
    refine WP.jY (E':=(fun b:List Nat×OV=>[(3,eq b.2.1),(9,eq q.1)]) ([],l6)) (cW Q (cW Q jD)) (WP.loop (β:=List Nat×OV) (fun k b=>b.1.length+k=a0.bx.length) (fun b=>[(3,eq b.2.1),(9,eq q.1)]) (fun b=>[own aC b.2.1 (kI a0.bx (fun e=>some e.1) b.1),s9 Value.string (fun p:OV=>eq p.1) v0_0.1 q.1 (cY a0.bx ps) b.1,qF bf.O a0.bx ps,ay b0_ 186 [eq v0_0.1]]++F) ?_ (k:=a0.bx.length) (b:=([],l6)) (Nat.zero_add _))
    rintro k ⟨is,v⟩ hk
    replace hk:is.length+k=a0.bx.length:=hk
    refine wr 2 1<|Dv.rgn (jj:=1) Q T Q Q nofun (fun z hz=>?_)
    rcases z with _ | j
    · have hz:is.Perm (List.range (cY a0.bx ps).length):=hz
      rw [pV hps.1] at hz
      refine eD Q T Q Q<|.fin<|WP.seq<|WP.cond Q nofun (fun _=>WP.exit ?_)
      refine Dn.gh (l':=fun _:Unit=>[own aC v.1 (kI a0.bx (fun e=>some e.1) is),s9 Value.string (fun p:OV=>eq p.1) v0_0.1 q.1 (cY a0.bx ps) is,qF bf.O a0.bx ps,ay b0_ 186 [eq v0_0.1]]++F) (iR (ok:=fun _=>True) fun R w k=>⟨(),T,k⟩) (fun _ _=>?_)
      refine Dn.gh (l':=fun _:Unit=>[mp Value.string (fun p:OV=>eq p.1) v0_0.1 (cY a0.bx ps),own aC v.1 (kI a0.bx (fun e=>some e.1) is),qF bf.O a0.bx ps,ay b0_ 186 [eq v0_0.1]]++F) (iR (D6 (pm 4 [1,0,2,3]))) (fun _ _=>?_)
      refine Dn.gh (l':=fun _:Unit=>[kh Value.string bf.O v0_0.1 a0.bx,own aC v.1 (kI a0.bx (fun e=>some e.1) is),ay b0_ 186 [eq v0_0.1]]++F) (iR (iy hps Q (pm 4 [0,2,1,3]))) (fun _ _=>?_)
      exact Jn.mk (is,v) hz (cW Q jD) (oF 3 [1,2,0] kr Q Q)
    have hz:j<(cY a0.bx ps).length∧j ∉ is∧is.length<(cY a0.bx ps).length:=hz
    obtain ⟨e,p,he,hp,hep⟩:=zU hps hz.1
    have hlt:is.length<a0.bx.length:=by rw [← pV hps.1]; exact hz.2.2
    have hsl:=Nat.le_trans (zZ (m:=a0.bx) (f:=(fun e=>some e.1)) (is:=is)) (Nat.le_of_lt hlt)
    have e1:nxV Value.string (fun p:OV=>eq p.1) (cY a0.bx ps) (some j)=kR [vB true,vS e.1,eq p.1]:=by simp only [nxV,hep]
    rw [e1]
    refine eD Q T Q Q<|.fin<|WP.seq<|WP.cond Q (fun _=>WP.skip ?_) nofun
    refine WP.gh (l':=fun _:Unit=>[own aC v.1 (kI a0.bx (fun e=>some e.1) is),s9 Value.string (fun p:OV=>eq p.1) v0_0.1 q.1 (cY a0.bx ps) (is++[j]),qF bf.O a0.bx ps,ay b0_ 186 [eq v0_0.1]]++F) (iR (ok:=fun _=>True) fun R w k=>⟨(),T,k⟩) (fun _ _=>?_)
    refine WP.block<|wr 3 0<|Dv.rge 1 Q T Q Q hep ?_
    refine eD Q T Q Q<|gq 1 ?_
    have e6:=wb (f:=(fun e=>some e.1)) (is:=is) he rfl
    have hbd:(kI a0.bx (fun e=>some e.1) is).length+([e.1]:List BA).length≤9223372036854775807∧((kI a0.bx (fun e=>some e.1) is).length+([e.1]:List BA).length)*16≤140737488355328:=by rw [List.length_singleton]; omega
    refine rg 5 8<|go 2<|Dv.lit aC ([e.1]:List BA) (css:=[[vS e.1]]) Q T eh U9 c9 z9 Q dc dc Q ⟨(cells_one (aj Q)),T⟩ Q Q Q<|ap aC 0 ([e.1]:List BA) bY eh (.inr ⟨_,eh⟩) xH hbd nofun fun v9=>go 1 ?_
    rw [e6]
    exact vM.mk (k-1) (is++[j],v9) om (by show (is++[j]).length+(k-1)=_; rw [List.length_append,List.length_singleton]; omega) (cW Q (cW Q jD)) (List.Perm.refl _)
  obtain ⟨is,v3⟩:=b
  replace hb:is.Perm (List.range a0.bx.length):=hb
  have hp:=wH (f:=(fun e=>some e.1)) hb
  have hs:slices_Sort_string.f (kI a0.bx (fun e=>some e.1) is)=some (oW (a0.bx.map (·.1))):=by
    have e7:a0.bx.filterMap (fun e=>some e.1)=a0.bx.map (·.1):=by rw [← List.filterMap_eq_map]; rfl
    rw [e7] at hp
    unfold slices_Sort_string.f Sp.aq
    rw [if_pos (by rw [hp.length_eq,List.length_map]; omega),Ij hp]
  refine wr 2 2<|go 1<|cx 3 [0,1,2] (cL 242) (slices_Sort_string.c hs (p0_:=v3)) nofun fun _ _=>.fin ?_
  refine so<|rt i2 Q v3 3 [1,2,0] 0 (.cons (aG Q) .nil)
theorem dN.c {cb0_ cd0_:Nat} {cq0_ cv0_0:OV} {ch0_:cq0_.1 = .pointer (some ⟨cd0_,0,none⟩)} {c0:aH} {c1:BA} (h:dN.f k a0 c0 c1=some r):Tr prog 182 [vS a0,bO cb0_,rp [vS c1]] [ay cb0_ 24 [eq cq0_.1],ay cd0_ 186 [eq cv0_0.1],kh Value.string bf.O cv0_0.1 c0.bx] (γ:=Unit) (fun _=>True) (fun g=>vB r) (fun g=>[ay cb0_ 24 [eq cq0_.1],ay cd0_ 186 [eq cv0_0.1],kh Value.string bf.O cv0_0.1 c0.bx]):=by
 refine tf func182 h fun R0 F H=>?_
 refine so<|wr 6 0<|gl 2 [0]<|lM Q T Q o9 Q<|el H fun ta haa H=>o8 3 [1,2,0] (cL 57) (Tr.jY (bN.c haa (b0_:=cd0_) (v0_0:=cv0_0)) (.cons (iD ch0_) (.cons cG (.cons cG .nil)))) ?_
 refine gq 2 ?_
 cases H.out; exact et () 3 [0,1,2] 0
theorem fQ.c {p0_:OV} (h:fQ.f k a0 a1=some r):Tr prog 123 [eq p0_.1,vS a1] [aH.O p0_ a0] (γ:=OV) (fun _=>True) (fun g=>eq g.1) (fun g=>[aH.O p0_ a0,own aC g.1 r]):=by
 refine tf func123 h fun R0 F H=>?_
 refine wr 3 3<|Dv.box Q T Q (cells_one bQ) nofun fun ba=>Dv.box Q T Q cE nofun fun bc=>go 1<|wr 5 10<|gl 1 [1]<|vg (aH.iM 2 Q) fun ga haa=>?_
 refine el H fun ta hac H=>cx 4 [0,1,2,3] (cL 181) (Tr.jY (fU.c hac (b0_:=ga.1) (v0_0:=ga.2)) (.cons (iD haa) .nil)) nofun fun gb _=>?_
 refine Dv.gh (rA (E':=[(0,eq p0_.1),(1,vS a1),(2,bO ba),(3,rp [vS a1]),(4,dY),(6,eq gb.1)]) (l':=[ay ga.1 186 [eq ga.2.1],kh Value.string bf.O ga.2.1 a0.bx,own aC gb.1 ta,ay ba 24 [eq p0_.1]]++F) 3 Q (ah Q ao (ah Q ao (ah Q ao (ah Q dm (ah Q ao (ah Q ao cT)))))) (bP (.cons av (.cons av (.cons av (.cons av .nil)))) fun _=>av)) (fun _ _=>?_)
 refine Dv.mkx (Q:=jI (fun a0_=>dN.f k a0_ a0 a1)) (L:=[ay ba 24 [eq p0_.1],ay ga.1 186 [eq ga.2.1],kh Value.string bf.O ga.2.1 a0.bx]) (cL 182) (by rintro _ _ ⟨a0_,r_,h_,rfl,rfl⟩; exact dN.c h_ (cb0_:=ba) (cq0_:=p0_) (cd0_:=ga.1) (ch0_:=haa) (cv0_0:=ga.2)) Q T Q Q<|el H fun tc had H=>cx 4 [2,3,0,1] (cL 71) (Tr.IW (A:=[own aC gb.1 ta]) (L:=[ay ba 24 [eq p0_.1],ay ga.1 186 [eq ga.2.1],kh Value.string bf.O ga.2.1 a0.bx]) (B:=fun gi:OV=>[own aC gi.1 tc]) (slices_DeleteFunc_string_xo.c had (p0_:=gb) (X1_:=(pk [ay ba 24 [eq p0_.1],ay ga.1 186 [eq ga.2.1],kh Value.string bf.O ga.2.1 a0.bx])))) nofun fun gi _=>?_
 refine go 1<|wg (aH.shut (p:=p0_) (m:=a0) (ga.1,ga.2) haa (pm 4 [1,2,0,3])) fun _ _=>?_
 cases H.out; exact et gi 3 [1,0,2] 1
theorem dM.c {cb0_ cd0_:Nat} {cq0_ cv0_0:OV} {ch0_:cq0_.1 = .pointer (some ⟨cd0_,0,none⟩)} {c0:aH} {c1:BA} (h:dM.f k a0 c0 c1=some r):Tr prog 124 [vS a0,bO cb0_,rp [vS c1]] [ay cb0_ 24 [eq cq0_.1],ay cd0_ 186 [eq cv0_0.1],kh Value.string bf.O cv0_0.1 c0.bx] (γ:=Unit) (fun _=>True) (fun g=>vB r) (fun g=>[ay cb0_ 24 [eq cq0_.1],ay cd0_ 186 [eq cv0_0.1],kh Value.string bf.O cv0_0.1 c0.bx]):=by
 refine tf func124 h fun R0 F H=>?_
 refine so<|wr 5 0<|gl 2 [0]<|lM Q T Q o9 Q<|el H fun ta haa H=>o8 3 [1,2,0] (cL 57) (Tr.jY (bN.c haa (b0_:=cd0_) (v0_0:=cv0_0)) (.cons (iD ch0_) (.cons cG (.cons cG .nil)))) ?_
 refine gq 1 ?_
 cases H.out; exact et () 3 [0,1,2] 0
theorem eY.c {p0_:OV} (h:eY.f k a0 a1 a2=some r):Tr prog 58 [eq p0_.1,vS a1,vS a2] [aH.O p0_ a0] (γ:=Unit) (fun _=>True) (fun g=>vB r) (fun g=>[aH.O p0_ a0]):=by
 refine tf func58 h fun R0 F H=>?_
 refine wr 3 3<|Dv.box Q T Q (cells_one bQ) nofun fun ba=>Dv.box Q T Q cE nofun fun bc=>go 1<|wr 6 4<|gl 2 [1]<|el H fun ta haa H=>cx 3 [2,0,1] (cL 123) (fQ.c haa (p0_:=p0_)) nofun fun ga _=>?_
 refine vg (aH.iM 0 Q) fun gb hac=>?_
 refine Dv.gh (rA (E':=[(0,eq p0_.1),(1,vS a1),(2,vS a2),(3,bO ba),(5,rp [vS a2]),(6,vB false),(9,eq ga.1)]) (l':=[ay gb.1 186 [eq gb.2.1],kh Value.string bf.O gb.2.1 a0.bx,own aC ga.1 ta,ay ba 24 [eq p0_.1]]++F) 3 Q (ah Q ao (ah Q ao (ah Q ao (ah Q ao (ah Q dm (ah Q ao (ah Q ao cT))))))) (bP (.cons av (.cons av (.cons av (.cons av .nil)))) fun _=>av)) (fun _ _=>?_)
 refine Dv.mkx (Q:=jI (fun a0_=>dM.f k a0_ a0 a2)) (L:=[ay ba 24 [eq p0_.1],ay gb.1 186 [eq gb.2.1],kh Value.string bf.O gb.2.1 a0.bx]) (cL 124) (by rintro _ _ ⟨a0_,r_,h_,rfl,rfl⟩; exact dM.c h_ (cb0_:=ba) (cq0_:=p0_) (cd0_:=gb.1) (ch0_:=hac) (cv0_0:=gb.2)) Q T Q Q<|el H fun tc had H=>o8 4 [2,3,0,1] (cL 122) (Tr.Ja (A:=[own aC ga.1 ta]) (L:=[ay ba 24 [eq p0_.1],ay gb.1 186 [eq gb.2.1],kh Value.string bf.O gb.2.1 a0.bx]) (cO.c had (p0_:=ga) (X1_:=(pk [ay ba 24 [eq p0_.1],ay gb.1 186 [eq gb.2.1],kh Value.string bf.O gb.2.1 a0.bx])))) ?_
 refine go 1<|wg (aH.shut (p:=p0_) (m:=a0) (gb.1,gb.2) hac (pm 4 [0,1,2,3])) fun _ _=>?_
 cases H.out; exact et () 3 [1,2,0] 2
theorem bX.c {v0_0 v0_1:OV} {b0_:Nat} (h:bX.f k a0 a1 a2=some r):Tr prog 59 [bO b0_,vS a1,vI a2] [ay b0_ 192 [eq v0_0.1,eq v0_1.1],own ai.K v0_0.1 a0.fl] (γ:=Unit) (fun _=>True) (fun g=>vI r) (fun g=>[ay b0_ 192 [eq v0_0.1,eq v0_1.1],own ai.K v0_0.1 a0.fl]):=by
 refine tf func59 h fun R0 F H=>?_
 refine so<|wr 8 0<|go 2<|el H fun ta haa H=>o8 2 [0,1] (cL 112) (dy.c haa (b0_:=b0_) (v0_0:=v0_0) (v0_1:=v0_1)) ?_
 refine go 1<|eD Q T Q Q<|eD Q T Q Q<|go 2<|WP.seq<|so<|ce H ?_ ?_ <;> intro H
 ·
  refine sp ?_
  cases H.out; exact et () 2 [0,1] 0
 refine WP.skip<|wr 10 0<|gl 5 [0]<|gr H fun ga H=>?_
 have hac:ta.1.toNat<a0.fl.length:=bC ga
 refine Dv.kF Q T Q (ab 1 Q) Q fF ir iW ga.1 ga.2<|Dv.o7 (j:=ta.1.toNat) (f:=0) Q T Q (ab 1 Q) hac ir Q iW (Nat.le_of_ble_eq_true Q)<|go 1<|el H fun tc had H=>cl Q (cL 125) Q (dV.c had)<|gq 1 ?_
 cases H.out; exact et () 2 [0,1] 0
theorem gP.c (h:gP.f a0=some r):Pt prog 130 [vB a0] (vI r):=by
 refine pf func130 h fun R0 F H=>?_
 refine so<|WP.seq<|so<|ce H ?_ ?_ <;> intro H
 ·
  refine sp ?_
  cases H.out; exact ek 0
 refine WP.skip<|sp ?_
 cases H.out; exact ek 0
theorem hM.c (h:hM.f k a0 a1=some r):Pt prog 62 [agg (bz.enc a0),agg (bz.enc a1)] (vI r):=by
 refine pf func62 h fun R0 F H=>?_
 refine wr 3 3<|Dv.box Q T Q cA nofun fun ba=>Dv.box Q T Q cA nofun fun bc=>go 1<|wd mX 25 0<|gl 4 [1,0]<|el H fun ta haa H=>cl Q (cL 65) Q (aD.c haa)<|gl 4 [1,0]<|el H fun tc hac H=>cl Q (cL 65) Q (aD.c hac)<|gl 4 [1,0]<|el H fun te had H=>cl Q (cL 65) Q (aD.c had)<|gl 2 [1]<|el H fun tg hae H=>cl Q (cL 130) Q (gP.c hae)<|gl 2 [0]<|el H fun tj haf H=>cl Q (cL 130) Q (gP.c haf)<|el H fun tm hag H=>cl Q (cL 129) Q (cF.c hag)<|Dv.lit (bp .i64) ([ta,tc,te,tm]:List Int) (css:=[[vI ta],[vI tc],[vI te],[vI tm]]) Q T qV U3 c3 z3 Q dc dc Q ⟨(cells_one (aj Q)),⟨(cells_one (aj Q)),⟨(cells_one (aj Q)),⟨(cells_one (aj Q)),T⟩⟩⟩⟩ Q Q Q<|el H fun tn hah H=>cl Q (cL 128) Q (bE.c hah)<|gq 1 ?_
 cases H.out; exact ek 2
theorem my.c (h:my.f k a0 a1=some r):Pt prog 61 [agg (jZ.enc a0),agg (jZ.enc a1)] (vI r):=by
 refine pf func61 h fun R0 F H=>?_
 refine wr 3 3<|Dv.box Q T Q cA nofun fun ba=>Dv.box Q T Q cA nofun fun bc=>go 1<|wr 6 0<|gl 4 [1,0]<|el H fun ta haa H=>cl Q (cL 62) Q (hM.c haa)<|gq 1 ?_
 cases H.out; exact ek 2
theorem pZ (x y:BA):aD.f x y=some (jS x y):=by
 unfold aD.f cmp_isNaN_string.f jS
 simp only [Option.bind_some,bne_self_eq_false,decide_true,Bool.not_true,cond_false]
 cases dH x y <;> cases dH y x <;> rfl
theorem AR:Aw mE:=(qX.tT (fun x:bz=>x.aa)).or ((qX.tT (fun x:bz=>x.ak)).or ((qX.tT (fun x:bz=>x.ag)).or (G5.tT (fun x:bz=>if x.au then 1 else 0))))
theorem Er (x y:Int):cF.f x y=some (mZ x y):=by
 unfold cF.f cmp_isNaN_int.f mZ
 simp only [Option.bind_some,bne_self_eq_false,cond_false]
 by_cases h:x<y
 ·
  simp [h]
 by_cases k:y<x <;> simp [h,k]
theorem or4_f (a b c d:Int):bE.f 8 [a,b,c,d]=some (DQ a (DQ b (DQ c d))):=by
 unfold DQ
 have e1:IntKind.i64.wrap 1=1:=dc
 have e2:IntKind.i64.wrap 2=2:=dc
 have e3:IntKind.i64.wrap 3=3:=dc
 have e4:IntKind.i64.wrap 4=4:=dc
 by_cases h1:a=0 <;> by_cases h2:b=0 <;> by_cases h3:c=0 <;> by_cases h4:d=0 <;> simp [bE.f,bE.l0,Kd.at,bp,aq,fall,h1,h2,h3,h4,ax,e1,e2,e3,e4,bne_iff_ne,show ∀ x:Int,(x != 0)=decide (x≠0) from fun x=>by by_cases h:x=0 <;> simp [h]]
theorem JN (x y:bz):hM.f 8 x y=some (mE x y):=by
 unfold hM.f gP.f
 rw [pZ,pZ,pZ]
 have e:∀ b:Bool,(cond b (some 1) (some 0):Option Int)=some (if b then 1 else 0):=fun b=>by cases b <;> rfl
 simp only [Option.bind_some,e,Er,or4_f]
 rfl
theorem aS.ER (x y:jZ):my.f 8 x y=some (aS.cf x y):=by
 unfold my.f
 rw [JN]
 rfl
theorem aS.z7:Aw aS.cf:=AR.tT (fun x:jZ=>x.dI)
theorem aS.c {p0_:OV} (h:aS.f a0=some r):Tr prog 60 [eq p0_.1,eq (.func (.func 61) #[] #[])] [own jZ.K p0_.1 a0] (γ:=Unit) (fun _=>True) (fun g=>kR []) (fun g=>[own jZ.K p0_.1 r]):=by
 unfold aS.f at h
 obtain ⟨⟨h0,hT⟩,h5⟩:=(aZ.of h).aq
 obtain rfl:=aZ.out h5
 exact rP (K:=jZ.K) (fun _=>(bS gY (bS gY (bS gY (bS gY (bS gY (bS gY mi))))))) dc aS.z7.swo hT (fun x y=>my.c (aS.ER x y)) (fun ev hk h1 cf hO ay off cap d w hc hH hb hs=>AnyQ.slices_SortFunc Tryz.lays6f60 6 Tryz.isAgg91 Tryz.sizeOf91 ev hk h1 cf hO 61 #[] ay off cap d w (enters_of func61 kr Q) hc hH hb hs) (fun q cap w=>AnyF.slices_SortFunc_none Tryz.lays6f60 q cap _ w) om
theorem mM.c (h:mM.f a0 a1=some r):Pt prog 64 [agg (iF.enc a0),agg (iF.enc a1)] (vI r):=by
 refine pf func64 h fun R0 F H=>?_
 refine wr 3 3<|Dv.box Q T Q cA nofun fun ba=>Dv.box Q T Q cA nofun fun bc=>go 1<|wr 6 0<|gl 4 [1,0]<|el H fun ta haa H=>cl Q (cL 65) Q (aD.c haa)<|gq 1 ?_
 cases H.out; exact ek 2
theorem aK.ER (x y:iF):mM.f x y=some (aK.cf x y):=by
 unfold mM.f
 rw [pZ]
 rfl
theorem aK.z7:Aw aK.cf:=qX.tT (fun x:iF=>x.aa)
theorem aK.c {p0_:OV} (h:aK.f a0=some r):Tr prog 63 [eq p0_.1,eq (.func (.func 64) #[] #[])] [own iF.K p0_.1 a0] (γ:=Unit) (fun _=>True) (fun g=>kR []) (fun g=>[own iF.K p0_.1 r]):=by
 unfold aK.f at h
 obtain ⟨⟨h0,hT⟩,h5⟩:=(aZ.of h).aq
 obtain rfl:=aZ.out h5
 exact rP (K:=iF.K) (fun _=>(bS gY (bS (wu (fun _=>(bS gY mi))) mi))) dc aK.z7.swo hT (fun x y=>mM.c (aK.ER x y)) (fun ev hk h1 cf hO ay off cap d w hc hH hb hs=>AnyQ.slices_SortFunc Tryz.lays6f63 2 Tryz.isAgg94 Tryz.sizeOf94 ev hk h1 cf hO 64 #[] ay off cap d w (enters_of func64 kr Q) hc hH hb hs) (fun q cap w=>AnyF.slices_SortFunc_none Tryz.lays6f63 q cap _ w) om
theorem mG.c (h:mG.f a0 a1=some r):Pt prog 67 [agg (jC.enc a0),agg (jC.enc a1)] (vI r):=by
 refine pf func67 h fun R0 F H=>?_
 refine wr 3 3<|Dv.box Q T Q cA nofun fun ba=>Dv.box Q T Q cA nofun fun bc=>go 1<|wr 6 0<|gl 4 [1,0]<|el H fun ta haa H=>cl Q (cL 65) Q (aD.c haa)<|gq 1 ?_
 cases H.out; exact ek 2
theorem aL.ER (x y:jC):mG.f x y=some (aL.cf x y):=by
 unfold mG.f
 rw [pZ]
 rfl
theorem aL.z7:Aw aL.cf:=qX.tT (fun x:jC=>x.ak)
theorem aL.c {p0_:OV} (h:aL.f a0=some r):Tr prog 66 [eq p0_.1,eq (.func (.func 67) #[] #[])] [own jC.K p0_.1 a0] (γ:=Unit) (fun _=>True) (fun g=>kR []) (fun g=>[own jC.K p0_.1 r]):=by
 unfold aL.f at h
 obtain ⟨⟨h0,hT⟩,h5⟩:=(aZ.of h).aq
 obtain rfl:=aZ.out h5
 exact rP (K:=jC.K) (fun _=>(bS gY (bS gY mi))) dc aL.z7.swo hT (fun x y=>mG.c (aL.ER x y)) (fun ev hk h1 cf hO ay off cap d w hc hH hb hs=>AnyQ.slices_SortFunc Tryz.lays6f66 2 Tryz.isAgg96 Tryz.sizeOf96 ev hk h1 cf hO 67 #[] ay off cap d w (enters_of func67 kr Q) hc hH hb hs) (fun q cap w=>AnyF.slices_SortFunc_none Tryz.lays6f66 q cap _ w) om
theorem sync_Make.c {p0_0 p0_1 p0_2 p0_3 p0_4:OV} (h:sync_Make.f k a0 a1 a2 a3=some r):Tr prog 14 [agg [eq p0_0.1,eq p0_1.1,eq p0_2.1,eq p0_3.1,eq p0_4.1],vS a1,vI a2,vI a3] [aH.O p0_0 a0.cK,gW.O p0_1 a0.bu,bH.O p0_2 a0.aW,bM.O p0_3 a0.aY,bK.O p0_4 a0.gG] (γ:=Unit) (fun _=>True) (fun g=>kR [agg (tJ.enc r.1),vI r.2]) (fun g=>[aH.O p0_0 a0.cK,gW.O p0_1 a0.bu,bH.O p0_2 a0.aW,bM.O p0_3 a0.aY,bK.O p0_4 a0.gG]):=by
 refine tf func14 h fun R0 F H=>?_
 refine wr 3 3<|Dv.box Q T Q cA nofun fun ba=>al Q T JI nofun fun bc=>go 1<|WP.seq<|wr 9 64<|gp 3 ?_
 rcases bm H with ⟨cc,H⟩ | ⟨cc,H⟩
 rotate_left
 ·
  refine sh 21 cc ?_
  refine sh 22 cc ?_
  refine go 3<|Dv.Cw Q ⟨_,_,Q,Q,.inl Q⟩ nofun<|go 2<|WP.cond Q (fun _=>?_) nofun
  refine wr 3 2<|Dv.lx (qs:=[vI 0,dY,dY,dY]) (css:=[]) Q T KA J6 z59 Q T Q Q<|sy 0 ?_
  refine gq 1 ?_
  cases H.out; exact rt i2 Q () 7 [0,1,2,3,4,5,6] 2 (.cons (oS (aw Q KA Q c59 (ab 0 Q) Q) (nZ (.cons cG (.cons dD (.cons dD (.cons dD .nil)))))) (.cons (aG Q) .nil))
 refine sh 21 cc ?_
 refine sh 22 cc ?_
 refine gl 3 [1]<|el H fun ta haa H=>cx 7 [6,0,1,2,3,4,5] (cL 53) (iw.c haa (p0_:=p0_4)) nofun fun _ _=>?_
 refine go 2<|ce H ?_ ?_ <;> intro H
 ·
  refine wr 3 2<|Dv.lx (qs:=[vI 0,dY,dY,dY]) (css:=[]) Q T KA J6 z59 Q T Q Q<|sy 1 ?_
  refine gq 1 ?_
  cases H.out; exact rt i2 Q () 7 [1,2,3,4,5,6,0] 2 (.cons (oS (aw Q KA Q c59 (ab 1 Q) Q) (nZ (.cons cG (.cons dD (.cons dD (.cons dD .nil)))))) (.cons (aG Q) .nil))
 refine WP.skip<|wr 6 52<|gl 2 [2]<|el H fun tc hac H=>cx 7 [0,1,2,3,4,5,6] (cL 53) (iw.c hac (p0_:=p0_4)) nofun fun _ _=>?_
 refine Dv.lx (qs:=[vI tc,dY,dY,dY]) (css:=[[vI tc]]) Q T KA J6 z59 Q ⟨(cells_one (aj Q)),T⟩ Q Q<|al Q T JI nofun fun bd=>sy 0 ?_
 refine .fin<|WP.iQ H (fun qh:(Int×Int×Bool×(List BA)×(List jZ)×(List iF)×(List jC))×OV×OV×OV×OV=>qh.1) (fun qh=>[(8,bO bc),(10,bO bd)]) (fun qh=>[ay bd 59 [vI tc,eq qh.2.2.1.1,eq qh.2.2.2.1.1,eq qh.2.2.2.2.1],ay bc 59 [vI 0,dY,dY,dY],ay ba 30 [eq p0_0.1,eq p0_1.1,eq p0_2.1,eq p0_3.1,eq p0_4.1],bK.O p0_4 a0.gG,aH.O p0_0 a0.cK,gW.O p0_1 a0.bu,bH.O p0_2 a0.aW,bM.O p0_3 a0.aY,own aC qh.2.1.1 qh.1.2.2.2.1,own jZ.K qh.2.2.1.1 qh.1.2.2.2.2.1,own iF.K qh.2.2.2.1.1 qh.1.2.2.2.2.2.1,own jC.K qh.2.2.2.2.1 qh.1.2.2.2.2.2.2]++F) (fun qh H=>?_) (fun H=>?_)
 ·
  obtain ⟨pa,va,vb,vd,ve⟩:=qh
  refine wr 3 4<|gl 2 [0]<|el H fun te had H=>cx 12 [9,0,1,2,3,4,5,6,7,8,10,11] (cL 60) (aS.c had (p0_:=vb)) nofun fun _ _=>?_
  refine .fin<|wr 3 4<|gl 2 [1]<|el H fun tg hae H=>cx 12 [10,0,1,2,3,4,5,6,7,8,9,11] (cL 63) (aK.c hae (p0_:=vd)) nofun fun _ _=>?_
  refine .fin<|wr 3 4<|gl 2 [2]<|el H fun tj haf H=>cx 12 [11,0,1,2,3,4,5,6,7,8,9,10] (cL 66) (aL.c haf (p0_:=ve)) nofun fun _ _=>?_
  refine .fin<|wr 3 2<|gl 1 [3]<|sy 4 ?_
  refine go 1<|WP.gh (eF (E':=[(8,bO bc),(9,vI 0)]) (l':=[own jC.K ve.1 tj,own iF.K vd.1 tg,ay bd 59 [vI tc,sl jZ.K te,eq vd.1,eq ve.1],ay bc 59 [vI tc,sl jZ.K te,eq vd.1,eq ve.1],ay ba 30 [eq p0_0.1,eq p0_1.1,eq p0_2.1,eq p0_3.1,eq p0_4.1],bK.O p0_4 a0.gG,aH.O p0_0 a0.cK,gW.O p0_1 a0.bu,bH.O p0_2 a0.aW,bM.O p0_3 a0.aY,own aC va.1 pa.2.2.2.1]++F) 2 Q (ah Q ao (ah Q ao cT)) (bP (.cons av (.cons av (.cons (cJ (.cons ao (.cons dm (.cons ao (.cons ao .nil))))) (.cons (cJ (.cons ao (.cons dm (.cons ao (.cons ao .nil))))) (.cons av (.cons av (.cons av (.cons av (.cons av (.cons av (.cons av .nil))))))))))) fun _=>av)) (fun _ _=>?_)
  refine WP.gh (eF (E':=[(8,bO bc),(9,vI 0)]) (l':=[own jC.K ve.1 tj,ay bd 59 [vI tc,sl jZ.K te,sl iF.K tg,eq ve.1],ay bc 59 [vI tc,sl jZ.K te,sl iF.K tg,eq ve.1],ay ba 30 [eq p0_0.1,eq p0_1.1,eq p0_2.1,eq p0_3.1,eq p0_4.1],bK.O p0_4 a0.gG,aH.O p0_0 a0.cK,gW.O p0_1 a0.bu,bH.O p0_2 a0.aW,bM.O p0_3 a0.aY,own aC va.1 pa.2.2.2.1]++F) 1 Q (ah Q ao (ah Q ao cT)) (bP (.cons av (.cons (cJ (.cons ao (.cons ao (.cons dm (.cons ao .nil))))) (.cons (cJ (.cons ao (.cons ao (.cons dm (.cons ao .nil))))) (.cons av (.cons av (.cons av (.cons av (.cons av (.cons av (.cons av .nil)))))))))) fun _=>av)) (fun _ _=>?_)
  refine WP.gh (eF (E':=[(8,bO bc),(9,vI 0)]) (l':=[ay bd 59 [vI tc,sl jZ.K te,sl iF.K tg,sl jC.K tj],ay bc 59 [vI tc,sl jZ.K te,sl iF.K tg,sl jC.K tj],ay ba 30 [eq p0_0.1,eq p0_1.1,eq p0_2.1,eq p0_3.1,eq p0_4.1],bK.O p0_4 a0.gG,aH.O p0_0 a0.cK,gW.O p0_1 a0.bu,bH.O p0_2 a0.aW,bM.O p0_3 a0.aY,own aC va.1 pa.2.2.2.1]++F) 0 Q (ah Q ao (ah Q ao cT)) (bP (.cons (cJ (.cons ao (.cons ao (.cons ao (.cons dm .nil))))) (.cons (cJ (.cons ao (.cons ao (.cons ao (.cons dm .nil))))) (.cons av (.cons av (.cons av (.cons av (.cons av (.cons av (.cons av .nil))))))))) fun _=>av)) (fun _ _=>?_)
  cases H.out; exact rt i2 Q () 9 [0,1,2,8,4,5,6,7,3] 4 (.cons (aw Q KA Q c59 (ab 1 Q) Q) (.cons (aG Q) .nil))
 refine wr 6 8<|gl 3 [3]<|el H fun tm hag H=>cx 8 [1,0,2,3,4,5,6,7] (cL 54) (cC.c hag (p0_:=p0_4)) nofun fun ga _=>?_
 refine Dv.kG Q T Q (ab 1 Q) eh<|go 1<|WP.block<|wg (eX jZ.K none) fun _ _=>?_
 refine wg (eX iF.K none) fun _ _=>?_
 refine wg (eX jC.K none) fun _ _=>?_
 refine ws 12 [5,6,7,3,4,8,9,10,11,2,1,0] 0 ?_
 refine lp (fun j_ (pc:Int×(List jZ)×(List iF)×(List jC)×OV×OV×OV)=>sync_Make.l0 k a0 a1 a3 tm j_ pc.1 pc.2.1 pc.2.2.1 pc.2.2.2.1) (0,([]:List jZ),([]:List iF),([]:List jC),l6,Fx,nilV2) H (fun pc=>[(1,vS a1),(3,vI a3),(4,bO ba),(8,bO bc),(10,bO bd),(37,eq ga.1),(38,vI (tm.length:Int)),(39,vI pc.1)]) (fun pc=>[ay bd 59 [vI tc,eq pc.2.2.2.2.1.1,eq pc.2.2.2.2.2.1.1,eq pc.2.2.2.2.2.2.1],ay bc 59 [vI 0,dY,dY,dY],ay ba 30 [eq p0_0.1,eq p0_1.1,eq p0_2.1,eq p0_3.1,eq p0_4.1],bK.O p0_4 a0.gG,own aC ga.1 tm,aH.O p0_0 a0.cK,gW.O p0_1 a0.bu,bH.O p0_2 a0.aW,bM.O p0_3 a0.aY,own jZ.K pc.2.2.2.2.1.1 pc.2.1,own iF.K pc.2.2.2.2.2.1.1 pc.2.2.1,own jC.K pc.2.2.2.2.2.2.1 pc.2.2.2.1]++F) ?_
 rintro j_ ⟨xa,xb,xc,xd,vh,vi,vj⟩ H
 rcases j_ with _ | ja
 ·
  exact (aZ.no H).elim
 try dsimp only at H
 rw [sync_Make.l0] at H
 refine so<|WP.seq<|ce H ?_ ?_ <;> intro H
 rotate_left
 ·
  refine WP.exit ?_
  have H:=H.out
  refine ns 12 [0,1,2,3,5,6,7,8,4,9,10,11] 0 ?_
  exact jn (((tm.length:Int),xa,decide (xa<(tm.length:Int)),tm,xb,xc,xd),ga,vh,vi,vj) H
 refine WP.skip<|WP.seq<|WP.block<|wr 3 0<|gr H fun gb H=>?_
 have hah:xa.toNat<tm.length:=bC gb
 refine Dv.kF Q T Q (ab 4 Q) Q eh U9 c9 gb.1 gb.2<|Dv.oH (j:=xa.toNat) (f:=0) (p:=vS (tm.getD xa.toNat default)) Q T Q (ab 4 Q) hah U9 Q Q<|go 1<|wr 3 0<|go 1<|el H fun tn hai H=>cl Q (cL 55) Q (na.c hai)<|go 1<|WP.iQ H (fun qi:((List jZ)×(List iF))×OV×OV=>qi.1) (fun qi=>[(1,vS a1),(3,vI a3),(4,bO ba),(8,bO bc),(10,bO bd),(13,jl.p tn),(37,eq ga.1),(38,vI (tm.length:Int)),(39,vI xa)]) (fun qi=>[ay bd 59 [vI tc,eq qi.2.1.1,eq qi.2.2.1,eq vj.1],ay bc 59 [vI 0,dY,dY,dY],ay ba 30 [eq p0_0.1,eq p0_1.1,eq p0_2.1,eq p0_3.1,eq p0_4.1],aH.O p0_0 a0.cK,gW.O p0_1 a0.bu,bH.O p0_2 a0.aW,bM.O p0_3 a0.aY,bK.O p0_4 a0.gG,own aC ga.1 tm,own jC.K vj.1 xd,own jZ.K qi.2.1.1 qi.1.1,own iF.K qi.2.2.1 qi.1.2]++F) (fun qi H=>?_) (fun H=>?_)
 ·
  obtain ⟨pe,vk,vl⟩:=qi
  refine wr 7 0<|go 1<|Dv.tas (jl.FJ tn) Q T Q<|go 1<|eD Q T Q Q<|eD Q T Q Q<|go 2<|wr 8 64<|gp 2 ?_
  rcases bm H with ⟨cg,H⟩ | ⟨cg,H⟩
  ·
   refine sh 86 cg ?_
   refine sh 19 cg ?_
   refine sh 87 cg ?_
   refine sh 88 cg ?_
   refine go 4<|Dv.Cw Q ⟨_,_,Q,Q,.inl Q⟩ nofun<|go 1<|WP.cond Q nofun (fun _=>?_)
   refine WP.skip<|rg 2 0<|go 2<|ns 12 [0,1,2,7,8,3,4,5,6,10,11,9] 0 ?_
   exact bk ja (ax (xa+1),pe.1,pe.2,xd,vk,vl,vj) H
  refine sh 86 cg ?_
  refine sh 19 cg ?_
  refine sh 87 cg ?_
  refine sh 88 cg ?_
  refine gl 4 [2]<|el H fun tp haj H=>cx 12 [3,0,1,2,4,5,6,7,8,9,10,11] (cL 58) (eY.c haj (p0_:=p0_0)) nofun fun _ _=>?_
  refine go 1<|ce H ?_ ?_ <;> intro H
  rotate_left
  ·
   refine WP.skip<|rg 2 0<|go 2<|ns 12 [1,2,3,7,8,0,4,5,6,10,11,9] 0 ?_
   exact bk ja (ax (xa+1),pe.1,pe.2,xd,vk,vl,vj) H
  refine wg (bM.iM 6 Q) fun gi hak=>?_
  refine dg mX 13 5120<|gl 7 [4,6]<|el H fun tq ham H=>o8 14 [0,1,2,3,4,5,6,7,8,9,10,11,12,13] (cL 59) (Tr.jY (bX.c ham (b0_:=gi.1) (v0_0:=gi.2.1) (v0_1:=gi.2.2)) (.cons (iD hak) (.cons cG (.cons cG .nil)))) ?_
  refine Dv.lx (qs:=[vS ((jl.rb tn).getD eE),vI tq]) (css:=[[vS ((jl.rb tn).getD eE)],[vI tq]]) Q T U96 pl96 z96 Q ⟨(cells_one (aj Q)),⟨(cells_one (aj Q)),T⟩⟩ Q Q<|Dv.lit jC.K ([(⟨(jl.rb tn).getD eE,tq⟩:jC)]:List jC) (css:=[[vS ((jl.rb tn).getD eE),vI tq]]) Q T KE U96 c96 z96 Q dc dc Q ⟨(bn (an (aj Q) (an (aj Q) b8))),T⟩ Q Q Q<|gr H fun gj H=>ap jC.K 11 ([(⟨(jl.rb tn).getD eE,tq⟩:jC)]:List jC) bY KE (.inr ⟨_,KE⟩) inf96 gj pB fun vm=>?_
  refine go 1<|sx 4 Q T Q Q (cells_one bQ) sz57 Q Q Q pB ?_
  refine .fin<|rg 2 0<|go 2<|ng (bM.shut (p:=p0_3) (m:=a0.aY) (gi.1,gi.2.1,gi.2.2) hak (pm 14 [0,1,2,3,4,5,6,7,8,9,10,11,12,13])) fun _ _=>?_
  refine ns 12 [2,3,4,7,8,1,5,6,0,10,11,9] 0 ?_
  exact bk ja (ax (xa+1),pe.1,pe.2,xd++([(⟨(jl.rb tn).getD eE,tq⟩:jC)]:List jC),vk,vl,vm) H
 refine so<|WP.block<|wr 3 0<|Dv.tas (jl.Im tn) Q T Q<|eD Q T Q Q<|eD Q T Q Q<|.fin<|ce H ?_ ?_ <;> intro H
 ·
  refine wr 2 3<|al Q T zc89 nofun fun be=>sy 0 ?_
  refine .fin<|wr 10 392<|gl 3 [3,0]<|el H fun tu han H=>cx 13 [6,7,8,9,4,0,1,2,3,5,10,11,12] (cL 56) (gK.c han (p0_0:=p0_0) (p0_1:=p0_1) (p0_2:=p0_2) (p0_3:=p0_3) (p0_4:=p0_4)) nofun fun _ _=>?_
  refine go 1<|eD Q T Q Q<|eD Q T Q Q<|al Q T Ki nofun fun bg=>sy 0 ?_
  refine go 1<|so<|ce H ?_ ?_ <;> intro H
  rotate_left
  ·
   refine WP.skip ?_
   have H:=H.out
   refine ns 14 [0,6,7,8,9,1,2,3,4,5,10,13,11,12] 2 ?_
   exact jn ((xb,xc),vh,vi) H
  refine rg 7 80<|gl 3 [7,0]<|Dv.lit jZ.K ([(⟨tu.1.dI,tu.1.kS⟩:jZ)]:List jZ) (css:=[[vS tu.1.dI.aa,vS tu.1.dI.ak,vS tu.1.dI.ag,vB tu.1.dI.au,vI tu.1.kS.bJ,vS tu.1.kS.b9]]) Q T Ky CP DS z91 Q dc dc Q ⟨(bn (an (aj Q) (an (aj Q) (an (aj Q) (an (aj Q) (an (aj Q) (an (aj Q) b8))))))),T⟩ Q Q Q<|gr H fun gk H=>ap jZ.K 11 ([(⟨tu.1.dI,tu.1.kS⟩:jZ)]:List jZ) bY Ky (.inr ⟨_,Ky⟩) inf91 gk nofun fun vn=>?_
  refine go 1<|sx 7 Q T Q Q (cells_one bQ) sz55 Q Q Q nofun ?_
  refine .fin ?_
  have H:=H.out
  refine ns 14 [0,6,7,8,9,1,2,3,4,5,10,13,11,12] 2 ?_
  exact jn ((xb++([(⟨tu.1.dI,tu.1.kS⟩:jZ)]:List jZ),xc),vn,vi) H
 refine wr 3 0<|Dv.tas (jl.Et tn) Q T Q<|eD Q T Q Q<|eD Q T Q Q<|.fin<|ce H ?_ ?_ <;> intro H
 rotate_left
 ·
  refine WP.skip ?_
  have H:=H.out
  refine ns 12 [0,1,2,5,6,7,8,3,4,11,9,10] 0 ?_
  exact jn ((xb,xc),vh,vi) H
 refine so<|wr 5 0<|gl 4 [2]<|vg (aH.iM 5 Q) fun gm hao=>?_
 refine el H fun tw hap H=>o8 13 [0,1,2,3,4,5,6,7,8,9,10,11,12] (cL 57) (Tr.jY (bN.c hap (b0_:=gm.1) (v0_0:=gm.2)) (.cons (iD hao) (.cons cG (.cons cG .nil)))) ?_
 refine .fin<|ce H ?_ ?_ <;> intro H
 rotate_left
 ·
  refine WP.skip ?_
  have H:=H.out
  refine ng (aH.shut (p:=p0_0) (m:=a0.cK) (gm.1,gm.2) hao (pm 13 [0,1,2,3,4,5,6,7,8,9,10,11,12])) fun _ _=>?_
  refine ns 12 [1,2,3,0,6,7,8,4,5,11,9,10] 0 ?_
  exact jn ((xb,xc),vh,vi) H
 refine wg (aH.shut (p:=p0_0) (m:=a0.cK) (gm.1,gm.2) hao (pm 13 [0,1,2,3,4,5,6,7,8,9,10,11,12])) fun _ _=>?_
 refine dg mX 12 2624<|gl 6 [1,3]<|el H fun tx haq H=>Dv.yW (pre:=[aH.O p0_0 a0.cK,gW.O p0_1 a0.bu,bH.O p0_2 a0.aW,bM.O p0_3 a0.aY,bK.O p0_4 a0.gG]) (F:=[ay bd 59 [vI tc,eq vh.1,eq vi.1,eq vj.1],ay bc 59 [vI 0,dY,dY,dY],ay ba 30 [eq p0_0.1,eq p0_1.1,eq p0_2.1,eq p0_3.1,eq p0_4.1],own aC ga.1 tm,own jZ.K vh.1 xb,own iF.K vi.1 xc,own jC.K vj.1 xd]++F) (fun _:Unit=>[aH.O p0_0 a0.cK,gW.O p0_1 a0.bu,bH.O p0_2 a0.aW,bM.O p0_3 a0.aY,bK.O p0_4 a0.gG,ay bd 59 [vI tc,eq vh.1,eq vi.1,eq vj.1],ay bc 59 [vI 0,dY,dY,dY],ay ba 30 [eq p0_0.1,eq p0_1.1,eq p0_2.1,eq p0_3.1,eq p0_4.1],own aC ga.1 tm,own jZ.K vh.1 xb,own iF.K vi.1 xc,own jC.K vj.1 xd]++F) Q T (cL 20) Q (kV.c haq (p0_0:=p0_0) (p0_1:=p0_1) (p0_2:=p0_2) (p0_3:=p0_3) (p0_4:=p0_4)) (mc (L:=[aH.O p0_0 a0.cK,ay bd 59 [vI tc,eq vh.1,eq vi.1,eq vj.1],ay bc 59 [vI 0,dY,dY,dY],ay ba 30 [eq p0_0.1,eq p0_1.1,eq p0_2.1,eq p0_3.1,eq p0_4.1],bK.O p0_4 a0.gG,own aC ga.1 tm,gW.O p0_1 a0.bu,bH.O p0_2 a0.aW,bM.O p0_3 a0.aY,own jZ.K vh.1 xb,own iF.K vi.1 xc,own jC.K vj.1 xd]) (F:=F) [0,6,7,8,4,1,2,3,5,9,10,11] kr Q Q) Q pE (fun _ _=>?_)
 refine Dv.lx (qs:=[vS ((jl.qY tn).getD eE),sl aC tx]) (css:=[[vS ((jl.qY tn).getD eE)],[sl aC tx]]) Q T I6 pl94 z94 Q ⟨(cells_one (aj Q)),⟨(cells_one dQ),T⟩⟩ Q Q<|Dv.lit iF.K ([(⟨(jl.qY tn).getD eE,tx⟩:iF)]:List iF) (css:=[[vS ((jl.qY tn).getD eE),sl aC tx]]) Q T IB I6 c94 z94 Q dc dc Q ⟨(bn (an (aj Q) (an dQ b8))),T⟩ Q Q Q<|gr H fun gn H=>ap iF.K 10 ([(⟨(jl.qY tn).getD eE,tx⟩:iF)]:List iF) bY IB (.inr ⟨_,IB⟩) inf94 gn pB fun vo=>?_
 refine go 1<|sx 5 Q T Q Q (cells_one bQ) sz56 Q Q Q pB ?_
 refine .fin ?_
 have H:=H.out
 refine ns 12 [5,6,7,0,1,2,3,4,8,11,9,10] 0 ?_
 exact jn ((xb,xc++([(⟨(jl.qY tn).getD eE,tx⟩:iF)]:List iF)),vh,vo) H
theorem cN.c (h:cN.f k a0 a1=some r):Pt prog 140 [agg (aF.enc a0),vS a1] (kR [agg (Event.enc r.1),vB r.2]):=by
 refine pf func140 h fun R0 F H=>?_
 refine wr 3 3<|Dv.box Q T Q cA nofun fun ba=>al Q T uR nofun fun bc=>go 1<|so<|WP.iQ H id (fun pa=>[(2,bO ba),(4,bO bc),(6,vI pa.1)]) (fun pa=>[ay bc 110 [vS eE,vS eE,dY,vS eE,vS eE,vI 0],ay ba 113 (aF.enc a0)]++F) (fun pa H=>?_) (fun H=>?_)
 ·
  refine WP.seq<|so<|ce H ?_ ?_ <;> intro H
  rotate_left
  ·
   refine WP.skip<|wr 7 32<|gl 3 [1]<|gr H fun ga H=>Dv.kg Q T Q Q py km mK ga.1 ga.2<|oz Q T Q Gd Q<|sy 0 ?_
   refine gq 1 ?_
   cases H.out; exact r2 i2 Q (.cons (aw Q km Q mK (ab 0 Q) Q) (.cons (aG Q) .nil))
  refine wr 3 2<|Dv.lx (qs:=[vS eE,vS eE,dY,vS eE,vS eE,vI 0]) (css:=[]) Q T km Ez Di Q T Q Q<|sy 0 ?_
  refine gq 1 ?_
  cases H.out; exact r2 i2 Q (.cons (oS (aw Q km Q mK (ab 0 Q) Q) (nZ (.cons cG (.cons cG (.cons dD (.cons cG (.cons cG (.cons cG .nil)))))))) (.cons (aG Q) .nil))
 refine so<|WP.block<|ws 2 [0,1] 0 ?_
 refine lp (fun j_ (pc:Int×Int)=>cN.l0 k a0 a1 j_ pc.1 pc.2) ((-1),0) H (fun pc=>[(1,vS a1),(2,bO ba),(4,bO bc),(6,vI pc.1),(7,vI pc.2)]) (fun pc=>[ay bc 110 [vS eE,vS eE,dY,vS eE,vS eE,vI 0],ay ba 113 (aF.enc a0)]++F) ?_
 rintro j_ ⟨xa,xb⟩ H
 rcases j_ with _ | ja
 ·
  exact (aZ.no H).elim
 try dsimp only at H
 rw [cN.l0] at H
 refine WP.seq<|wr 5 0<|gl 3 [1]<|Dv.jN Q T Q py<|go 1<|ce H ?_ ?_ <;> intro H
 rotate_left
 ·
  refine WP.exit ?_
  have H:=H.out
  exact jn (xa,xb,decide (xb<(a0.fL.length:Int))) H
 refine WP.skip<|WP.seq<|WP.block<|WP.seq<|wr 17 0<|gl 3 [1]<|gr H fun gb H=>Dv.kg Q T Q Q py km mK gb.1 gb.2<|fr Q T Q IC Q<|lM Q T Q o9 Q<|gp 3 ?_
 cases cc:!decide (((Event.K.at a0.fL xb).ak)=a1)
 rotate_left
 ·
  have H:=H.ct cc
  refine go 8<|WP.cond Q (fun _=>?_) nofun
  exact WP.exit<|rg 3 0<|go 3<|bk ja (xa,ax (xb+1)) H
 have H:=H.cf cc
 refine gl 3 [1]<|gr H fun gi H=>Dv.kg Q (gg Q) Q Q py km mK gi.1 gi.2<|fr Q (gg Q) Q yz Q<|lM Q (gg Q) Q Gz Q<|go 2<|ce H ?_ ?_ <;> intro H
 ·
  exact WP.exit<|rg 3 0<|go 3<|bk ja (xa,ax (xb+1)) H
 refine WP.skip<|WP.seq<|so<|ce H ?_ ?_ <;> intro H
 ·
  exact so<|WP.exit<|rg 3 0<|go 3<|bk ja (xb,ax (xb+1)) H
 refine WP.skip<|wd mX 18 0<|gl 4 [1,1]<|gr H fun gj H=>Dv.kg Q T Q Q py km mK gj.1 gj.2<|fr Q T Q ye Q<|lM Q T Q o9 Q<|el H fun ta haa H=>cl Q (cL 152) Q (dC.c haa)<|gl 4 [1,1]<|gr H fun gk H=>Dv.kg Q T Q Q py km mK gk.1 gk.2<|fr Q T Q ye Q<|lM Q T Q o9 Q<|el H fun tc hac H=>cl Q (cL 152) Q (dC.c hac)<|el H fun te had H=>cl Q (cL 24) Q (iG.c had)<|go 1<|so<|ce H ?_ ?_ <;> intro H
 rotate_left
 ·
  exact WP.skip<|rg 3 0<|go 3<|bk ja (xa,ax (xb+1)) H
 exact rg 2 0<|go 2<|rg 3 0<|go 3<|bk ja (xb,ax (xb+1)) H
theorem jo.c (h:jo.f k a0 a1=some r):Pt prog 76 [agg (aF.enc a0),vS a1] (vB r):=by
 refine pf func76 h fun R0 F H=>?_
 refine wr 2 1<|Dv.box Q T Q cA nofun fun ba=>go 1<|wr 9 192<|gl 2 [0]<|el H fun ta haa H=>cl Q (cL 140) Q (cN.c haa)<|go 1<|eD Q T Q Q<|eD Q T Q Q<|al Q T uR nofun fun bc=>sy 0 ?_
 refine go 1<|wr 7 0<|gp 2 ?_
 cases cc:ta.2
 ·
  have H:=H.cf cc
  refine gq 5 ?_
  cases H.out; exact ek 2
 have H:=H.ct cc
 refine FW 5 [0] ?_
 cases H.out; exact ek 2
theorem du.c (h:du.f k a0 a1 a2=some r):Pt prog 27 [agg (bq.enc a0),vS a1,vS a2] (vB r):=by
 refine pf func27 h fun R0 F H=>?_
 refine wr 2 1<|Dv.box Q T Q cA nofun fun ba=>go 1<|wr 6 0<|gl 2 [0]<|el H fun ta haa H=>cl Q (cL 77) Q (gZ.c haa)<|go 1<|el H fun tc hac H=>cl Q (cL 76) Q (jo.c hac)<|gq 1 ?_
 cases H.out; exact ek 1
theorem dX.c (h:dX.f k a0 a1=some r):Tr prog 78 [agg (bq.enc a0),vS a1] [] (γ:=OV) (fun _=>True) (fun g=>eq g.1) (fun g=>[own aC g.1 r]):=by
 refine tf func78 h fun R0 F H=>?_
 refine wr 2 1<|Dv.box Q T Q cA nofun fun ba=>go 1<|so<|WP.iQ H (fun qh:(Int×Bool×(List BA))×OV=>qh.1) (fun qh=>[(5,eq qh.2.1)]) (fun qh=>[ay ba 33 (bq.enc a0),own aC qh.2.1 qh.1.2.2]++F) (fun qh H=>?_) (fun H=>?_)
 ·
  obtain ⟨pa,va⟩:=qh
  refine sp ?_
  cases H.out; exact et va 2 [0,1] 1
 refine so<|WP.block<|wg (eX aC none) fun _ _=>?_
 refine ws 2 [1,0] 0 ?_
 refine lp (fun j_ (pc:Int×(List BA)×OV)=>dX.l0 k a0 a1 j_ pc.1 pc.2.1) (0,([]:List BA),l6) H (fun pc=>[(1,vS a1),(2,bO ba),(5,eq pc.2.2.1),(6,vI pc.1)]) (fun pc=>[ay ba 33 (bq.enc a0),own aC pc.2.2.1 pc.2.1]++F) ?_
 rintro j_ ⟨xa,xb,vb⟩ H
 rcases j_ with _ | ja
 ·
  exact (aZ.no H).elim
 try dsimp only at H
 rw [dX.l0] at H
 refine WP.seq<|wr 5 0<|gl 3 [0]<|Dv.jN Q T Q yj<|go 1<|ce H ?_ ?_ <;> intro H
 rotate_left
 ·
  refine WP.exit ?_
  have H:=H.out
  exact jn ((xa,decide (xa<(a0.fD.length:Int)),xb),vb) H
 refine WP.skip<|WP.seq<|WP.block<|wr 8 0<|gl 3 [0]<|gr H fun ga H=>Dv.kg Q T Q Q yj lI nw ga.1 ga.2<|oz Q T Q Fq Q<|go 1<|el H fun ta haa H=>cl Q (cL 76) Q (jo.c haa)<|go 1<|so<|ce H ?_ ?_ <;> intro H
 rotate_left
 ·
  exact WP.skip<|rg 3 0<|go 3<|bk ja (ax (xa+1),xb,vb) H
 refine rg 10 256<|gl 4 [0]<|gr H fun gb H=>Dv.kg Q T Q Q yj lI nw gb.1 gb.2<|fr Q T Q tF Q<|lM Q T Q o9 Q<|Dv.lit aC ([(aF.K.at a0.fD xa).aa]:List BA) (css:=[[vS ((aF.K.at a0.fD xa).aa)]]) Q T eh U9 c9 z9 Q dc dc Q ⟨(cells_one (aj Q)),T⟩ Q Q Q<|gr H fun gi H=>ap aC 1 ([(aF.K.at a0.fD xa).aa]:List BA) bY eh (.inr ⟨_,eh⟩) xH gi nofun fun vd=>?_
 exact go 1<|rg 3 0<|go 3<|bk ja (ax (xa+1),xb++([(aF.K.at a0.fD xa).aa]:List BA),vd) H
theorem dt.c (h:dt.f k a0 a1 a2=some r):Pt prog 28 [agg (bq.enc a0),vS a1,vS a2] (vB r):=by
 refine pf func28 h fun R0 F H=>?_
 refine wr 2 1<|Dv.box Q T Q cA nofun fun ba=>go 1<|wr 4 4<|gl 2 [0]<|el H fun ta haa H=>cx 1 [0] (cL 78) (dX.c haa) nofun fun ga _=>?_
 refine go 1<|WP.kN H id (fun pa=>[]) (fun pa=>[ay ba 33 (bq.enc a0),own aC ga.1 ta]++F) (fun pa H=>?_) (fun H=>?_)
 ·
  refine sp ?_
  cases H.out; exact ek 2
 refine so<|WP.block<|ws 2 [1,0] 0 ?_
 refine lp (fun j_ (pc:Int)=>dt.l0 k a0 a2 ta j_ pc) 0 H (fun pc=>[(2,vS a2),(3,bO ba),(7,eq ga.1),(8,vI pc)]) (fun pc=>[ay ba 33 (bq.enc a0),own aC ga.1 ta]++F) ?_
 rintro j_ xa H
 rcases j_ with _ | ja
 ·
  exact (aZ.no H).elim
 try dsimp only at H
 rw [dt.l0] at H
 refine WP.seq<|wr 4 0<|go 2<|Dv.kG Q T Q (ab 1 Q) eh<|go 1<|ce H ?_ ?_ <;> intro H
 rotate_left
 ·
  refine WP.exit ?_
  have H:=H.out
  exact jn (xa,decide (xa<(ta.length:Int))) H
 refine WP.skip<|WP.seq<|WP.block<|wd mX 8 0<|gl 3 [0]<|gr H fun gb H=>?_
 have hac:xa.toNat<ta.length:=bC gb
 refine Dv.kF Q T Q (ab 1 Q) Q eh U9 c9 gb.1 gb.2<|Dv.oH (j:=xa.toNat) (f:=0) (p:=vS (ta.getD xa.toNat default)) Q T Q (ab 1 Q) hac U9 Q Q<|go 1<|el H fun tc had H=>cl Q (cL 27) Q (du.c had)<|go 1<|so<|ce H ?_ ?_ <;> intro H
 rotate_left
 ·
  exact WP.skip<|rg 3 0<|go 3<|bk ja (ax (xa+1)) H
 refine sp ?_
 have H:=H.fW
 cases H.out; exact ek 2
end Go.Proofs.YtfknmdelgepbjaaGreatDoor
