import Derived.Test.YtfknmdelgepbjaaGreatDoorZTab
import Derived.Test.YtfknmdelgepbjaaGreatDoorZWalks4
import Derived.Test.YtfknmdelgepbjaaGreatDoorConQ
import Derived.Test.YtfknmdelgepbjaaGreatDoorConA6
import Derived.Test.YtfknmdelgepbjaaGreatDoorConC4
import Derived.Lib.Join
import Derived.Eval
set_option linter.all false
set_option autoImplicit true
set_option maxRecDepth 10000
set_option maxHeartbeats 20000000
namespace Go.Proofs.YtfknmdelgepbjaaGreatDoor
open Go Go.Sp Tryz
theorem bP.c (h:bP.f k a0 a1 a2 a3 a4=some r):Tr prog 6 [sl dw.K a0,sl dw.K a1,sl ak.K a2,vI a3,vI a4] [lax] (γ:=Unit) (fun _=>True) (fun g=>vB r) (fun g=>[lax]):=by
 refine tf func6 h fun R0 F H=>?_
 refine so<|wr 4 4<|go 2<|el H fun ta haa H=>cx 1 [0] (cL 9) (ov.c haa) nofun fun ga _=>?_
 refine go 1<|wr 11 962<|go 1<|Dv.gh (nS (E':=[(0,sl dw.K a0),(1,sl dw.K a1),(2,sl ak.K a2),(3,vI a3),(4,vI a4),(10,vB false),(11,sl Event.K ta),(34,sl Event.K ta)]) (l':=[lax]++F) 0 Q (ar Q az (ar Q az (ar Q az (ar Q az (ar Q az (ar Q az (ar Q j4 (ar Q j4 jl)))))))) (gC (.cons bU .nil) fun _=>bU)) (fun _ _=>?_)
 refine el H fun tc hac H=>cx 1 [0] (cL 8) (ff.c hac) nofun fun gb _=>?_
 refine go 1<|ei Q T Q Q<|ei Q T Q Q<|ei Q T Q Q<|al Q T Iz nofun fun ba=>al Q T BG nofun fun bc=>sy 1 ?_
 refine sy 0 ?_
 refine go 1<|wr 11 962<|go 1<|el H fun te had H=>cx 8 [0,1,2,3,4,5,6,7] (cL 8) (ff.c had) nofun fun gc _=>?_
 refine go 1<|ei Q T Q Q<|ei Q T Q Q<|ei Q T Q Q<|al Q T Iz nofun fun bd=>al Q T BG nofun fun be=>sy 1 ?_
 refine sy 0 ?_
 refine go 1<|WP.seq<|wr 6 0<|gp 3 ?_
 rcases bm H with ⟨cc,H⟩ | ⟨cc,H⟩
 rotate_left
 ·
  refine sh 46 cc ?_
  refine sh 47 cc ?_
  refine go 3<|WP.cond Q (fun _=>?_) nofun
  refine sp ?_
  cases H.out; exact et () 15 [0,1,2,3,4,5,6,7,8,9,10,11,12,13,14] 14
 refine sh 46 cc ?_
 refine sh 47 cc ?_
 refine go 3<|ce H ?_ ?_ <;> intro H
 ·
  refine sp ?_
  cases H.out; exact et () 15 [0,1,2,3,4,5,6,7,8,9,10,11,12,13,14] 14
 refine WP.skip<|wr 3 0<|go 1<|el H fun tg hae H=>cl Q (cL 13) Q (gU.c hae)<|go 1<|WP.xS H id (fun pa=>[(4,vI a4),(12,eP ba),(15,eP bd),(18,vS tg)]) (fun pa=>[aI be 43 [sl aQ.K pa.2.2.1.fV.fD,sl MK.K pa.2.2.1.fM,sl ak.K pa.2.2.1.fT.fL,sl dj pa.2.2.1.fT.eF,sl ak.K pa.2.2.1.fP.fL,sl (bG .i64) pa.2.2.1.fP.eF,sl kZ.K pa.2.2.1.fL,vI pa.2.2.1.bQ],aI bd 30 [eq gc.1.1,eq gc.2.1.1,eq gc.2.2.1.1,eq gc.2.2.2.1.1,eq gc.2.2.2.2.1],aI bc 43 [sl aQ.K pa.2.2.2.1.fV.fD,sl MK.K pa.2.2.2.1.fM,sl ak.K pa.2.2.2.1.fT.fL,sl dj pa.2.2.2.1.fT.eF,sl ak.K pa.2.2.2.1.fP.fL,sl (bG .i64) pa.2.2.2.1.fP.eF,sl kZ.K pa.2.2.2.1.fL,vI pa.2.2.2.1.bQ],aI ba 30 [eq gb.1.1,eq gb.2.1.1,eq gb.2.2.1.1,eq gb.2.2.2.1.1,eq gb.2.2.2.2.1],aL.O gc.1 pa.2.2.2.2.1,jF.O gc.2.1 pa.2.2.2.2.2.1,bZ.O gc.2.2.1 pa.2.2.2.2.2.2.1,cI.O gc.2.2.2.1 pa.2.2.2.2.2.2.2.1,cH.O gc.2.2.2.2 pa.2.2.2.2.2.2.2.2.1,aL.O gb.1 pa.2.2.2.2.2.2.2.2.2.1,jF.O gb.2.1 pa.2.2.2.2.2.2.2.2.2.2.1,bZ.O gb.2.2.1 pa.2.2.2.2.2.2.2.2.2.2.2.1,cI.O gb.2.2.2.1 pa.2.2.2.2.2.2.2.2.2.2.2.2.1,cH.O gb.2.2.2.2 pa.2.2.2.2.2.2.2.2.2.2.2.2.2,lax]++F) (fun pa H=>?_) (fun H=>?_)
 ·
  refine wr 3 0<|go 1<|el H fun tj haf H=>cl Q (cL 10) Q (bp.c haf)<|go 1<|wr 10 392<|gl 3 [3]<|el H fun tm hag H=>cx 15 [9,10,11,12,13,0,1,2,3,4,5,6,7,8,14] (cL 14) (sync_Make.c hag (p0_0:=gb.1) (p0_1:=gb.2.1) (p0_2:=gb.2.2.1) (p0_3:=gb.2.2.2.1) (p0_4:=gb.2.2.2.2)) nofun fun _ _=>?_
  refine go 1<|ei Q T Q Q<|ei Q T Q Q<|al Q T IS nofun fun bg=>sy 0 ?_
  refine go 1<|wr 10 392<|gl 3 [7]<|el H fun tn hah H=>cx 16 [10,11,12,13,14,0,1,2,3,4,5,6,7,8,9,15] (cL 14) (sync_Make.c hah (p0_0:=gc.1) (p0_1:=gc.2.1) (p0_2:=gc.2.2.1) (p0_3:=gc.2.2.2.1) (p0_4:=gc.2.2.2.2)) nofun fun _ _=>?_
  refine go 1<|ei Q T Q Q<|ei Q T Q Q<|al Q T IS nofun fun bh=>sy 0 ?_
  refine go 1<|wd mX 22 0<|gp 3 ?_
  cases cg:(tm.2==0)
  ·
   have H:=H.cf cg
   refine gq 19 ?_
   cases H.out; exact et () 17 [0,1,2,3,4,5,6,7,8,9,10,11,12,13,14,15,16] 16
  have H:=H.ct cg
  refine gp 4 ?_
  cases ci:(tn.2==0)
  ·
   have H:=H.cf ci
   refine gq 15 ?_
   cases H.out; exact et () 17 [0,1,2,3,4,5,6,7,8,9,10,11,12,13,14,15,16] 16
  have H:=H.ct ci
  refine gl 2 [6,0]<|el H fun tp hai H=>Dv.call Q (gg Q) (cL 29) Q (nh.c hai)<|gp 2 ?_
  cases cj:tp
  ·
   have H:=H.cf cj
   refine gq 10 ?_
   cases H.out; exact et () 17 [0,1,2,3,4,5,6,7,8,9,10,11,12,13,14,15,16] 16
  have H:=H.ct cj
  refine gl 1 [6]<|el H fun tq haj H=>Dv.call Q (gg Q) (cL 17) Q (eo.c haj)<|gl 1 [0]<|el H fun tu hak H=>Dv.call Q (gg Q) (cL 17) Q (eo.c hak)<|el H fun tw ham H=>Dv.call Q (gg Q) (cL 16) Q (dL.c ham)<|gp 2 ?_
  cases ck:tw
  ·
   have H:=H.cf ck
   refine gq 3 ?_
   cases H.out; exact et () 17 [0,1,2,3,4,5,6,7,8,9,10,11,12,13,14,15,16] 16
  have H:=H.ct ck
  refine el H fun tx han H=>px 17 [16,0,1,2,3,4,5,6,7,8,9,10,11,12,13,14,15] (cL 22) (oi.c han) ?_
  refine gq 2 ?_
  cases H.out; exact et () 17 [0,1,2,3,4,5,6,7,8,9,10,11,12,13,14,15,16] 16
 refine so<|WP.block<|ws 15 [0,1,7,8,2,3,4,5,6,9,10,11,12,13,14] 0 ?_
 refine lq (fun j_ (pc:Int×dt×dt×aL×jF×bZ×cI×cH×aL×jF×bZ×cI×cH)=>bP.l0 k a2 tg j_ pc.1 pc.2.1 pc.2.2.1 pc.2.2.2.1 pc.2.2.2.2.1 pc.2.2.2.2.2.1 pc.2.2.2.2.2.2.1 pc.2.2.2.2.2.2.2.1 pc.2.2.2.2.2.2.2.2.1 pc.2.2.2.2.2.2.2.2.2.1 pc.2.2.2.2.2.2.2.2.2.2.1 pc.2.2.2.2.2.2.2.2.2.2.2.1 pc.2.2.2.2.2.2.2.2.2.2.2.2) (0,(⟨te.2.1.fV,te.2.1.fM,te.2.1.fT,te.2.1.fP,te.2.1.fL,te.2.1.bQ⟩:dt),(⟨tc.2.1.fV,tc.2.1.fM,tc.2.1.fT,tc.2.1.fP,tc.2.1.fL,tc.2.1.bQ⟩:dt),te.1.cO,te.1.ay,te.1.av,te.1.aU,te.1.gH,tc.1.cO,tc.1.ay,tc.1.av,tc.1.aU,tc.1.gH) H [2,4,12,13,15,16,18] (fun pc=>[(19,vI pc.1)]) (fun pc=>[(0,aI be 43 [sl aQ.K pc.2.1.fV.fD,sl MK.K pc.2.1.fM,sl ak.K pc.2.1.fT.fL,sl dj pc.2.1.fT.eF,sl ak.K pc.2.1.fP.fL,sl (bG .i64) pc.2.1.fP.eF,sl kZ.K pc.2.1.fL,vI pc.2.1.bQ]),(2,aI bc 43 [sl aQ.K pc.2.2.1.fV.fD,sl MK.K pc.2.2.1.fM,sl ak.K pc.2.2.1.fT.fL,sl dj pc.2.2.1.fT.eF,sl ak.K pc.2.2.1.fP.fL,sl (bG .i64) pc.2.2.1.fP.eF,sl kZ.K pc.2.2.1.fL,vI pc.2.2.1.bQ]),(4,aL.O gc.1 pc.2.2.2.1),(5,jF.O gc.2.1 pc.2.2.2.2.1),(6,bZ.O gc.2.2.1 pc.2.2.2.2.2.1),(7,cI.O gc.2.2.2.1 pc.2.2.2.2.2.2.1),(8,cH.O gc.2.2.2.2 pc.2.2.2.2.2.2.2.1),(9,aL.O gb.1 pc.2.2.2.2.2.2.2.2.1),(10,jF.O gb.2.1 pc.2.2.2.2.2.2.2.2.2.1),(11,bZ.O gb.2.2.1 pc.2.2.2.2.2.2.2.2.2.2.1),(12,cI.O gb.2.2.2.1 pc.2.2.2.2.2.2.2.2.2.2.2.1),(13,cH.O gb.2.2.2.2 pc.2.2.2.2.2.2.2.2.2.2.2.2)]) ?_
 rintro j_ ⟨xc,xd,xe,xf,xg,xi,xj,xk,xn,xo,xp,xq,xr⟩ H
 rcases j_ with _ | ja
 ·
  exact (aV.no H).elim
 try dsimp only at H
 rw [bP.l0] at H
 refine WP.seq<|wr 8 0<|go 2<|Dv.fg Q T Q fI<|gp 2 ?_
 rcases bm H with ⟨cn,H⟩ | ⟨cn,H⟩
 ·
  refine sh 56 cn ?_
  refine sh 57 cn ?_
  refine go 3<|WP.cond Q nofun (fun _=>?_)
  refine WP.exit ?_
  have H:=H.out
  exact jn (xc,false,(⟨xd.fV,xd.fM,xd.fT,xd.fP,xd.fL,xd.bQ⟩:dt),(⟨xe.fV,xe.fM,xe.fT,xe.fP,xe.fL,xe.bQ⟩:dt),xf,xg,xi,xj,xk,xn,xo,xp,xq,xr) H
 refine sh 56 cn ?_
 refine sh 57 cn ?_
 refine go 3<|cf H ?_ ?_ <;> intro H
 ·
  refine WP.exit ?_
  have H:=H.out
  exact jn (xc,decide (xc<10),(⟨xd.fV,xd.fM,xd.fT,xd.fP,xd.fL,xd.bQ⟩:dt),(⟨xe.fV,xe.fM,xe.fT,xe.fP,xe.fL,xe.bQ⟩:dt),xf,xg,xi,xj,xk,xn,xo,xp,xq,xr) H
 refine WP.skip<|WP.seq<|WP.block<|wr 7 96<|go 2<|gr H fun gi H=>Dv.iY Q T Q Q fI iq iT gi.1 gi.2<|kM Q T Q wU Q<|el H fun tz hao H=>cl Q (cL 12) Q (lu.c hao)<|al Q T s9 nofun fun bi=>sy 0 ?_
 refine .fin<|wr 10 392<|gl 3 [4,3,0]<|el H fun taa hap H=>cx 16 [15,10,11,12,13,14,0,1,2,3,4,5,6,7,8,9] (cL 11) (kJ.c hap (p0_0:=gb.1) (p0_1:=gb.2.1) (p0_2:=gb.2.2.1) (p0_3:=gb.2.2.2.1) (p0_4:=gb.2.2.2.2)) nofun fun _ _=>?_
 refine go 1<|ei Q T Q Q<|ei Q T Q Q<|al Q T BG nofun fun bj=>sy 0 ?_
 refine go 1<|WP.seq<|so<|ce H ?_ ?_ <;> intro H
 ·
  refine sp ?_
  have H:=H.fH
  cases H.out; exact et () 17 [0,2,3,4,5,6,7,8,9,10,11,12,13,14,15,16,1] 16
 refine WP.skip<|wr 2 2<|gl 1 [0]<|sy 10 ?_
 refine .fin<|WP.seq<|wr 8 0<|kK 3 [7] ?_
 rcases bm H with ⟨co,H⟩ | ⟨co,H⟩
 ·
  refine sh 79 co ?_
  refine sh 80 co ?_
  refine go 5<|WP.cond Q nofun (fun _=>?_)
  refine WP.skip<|wr 10 392<|gl 3 [9,8,7]<|el H fun tac haq H=>cx 17 [1,12,13,14,15,16,0,2,3,4,5,6,7,8,9,10,11] (cL 11) (kJ.c haq (p0_0:=gc.1) (p0_1:=gc.2.1) (p0_2:=gc.2.2.1) (p0_3:=gc.2.2.2.1) (p0_4:=gc.2.2.2.2)) nofun fun _ _=>?_
  refine go 1<|ei Q T Q Q<|ei Q T Q Q<|al Q T BG nofun fun bl=>sy 0 ?_
  refine go 1<|WP.seq<|so<|ce H ?_ ?_ <;> intro H
  ·
   refine sp ?_
   have H:=H.fH
   cases H.out; exact et () 18 [0,2,3,4,5,6,7,8,9,10,11,12,13,14,15,16,17,1] 17
  refine WP.skip<|rg 2 2<|gl 1 [0]<|sy 14 ?_
  refine .fin<|rg 3 0<|go 3<|ns 18 [0,7,13,14,15,16,17,2,3,4,5,6,8,9,10,11,12,1] 3 ?_
  exact bk ja (aw (xc+1),(⟨tac.1.fV,tac.1.fM,tac.1.fT,tac.1.fP,tac.1.fL,tac.1.bQ⟩:dt),(⟨taa.1.fV,taa.1.fM,taa.1.fT,taa.1.fP,taa.1.fL,taa.1.bQ⟩:dt),tac.2.2.cO,tac.2.2.ay,tac.2.2.av,tac.2.2.aU,tac.2.2.gH,taa.2.2.cO,taa.2.2.ay,taa.2.2.av,taa.2.2.aU,taa.2.2.gH) H
 refine sh 79 co ?_
 refine sh 80 co ?_
 refine gl 5 [7]<|ce H ?_ ?_ <;> intro H
 ·
  refine WP.exit<|rg 3 0<|go 3<|ns 17 [0,7,8,9,10,11,12,13,14,15,16,2,3,4,5,6,1] 2 ?_
  exact bk ja (aw (xc+1),(⟨xd.fV,xd.fM,xd.fT,xd.fP,xd.fL,xd.bQ⟩:dt),(⟨taa.1.fV,taa.1.fM,taa.1.fT,taa.1.fP,taa.1.fL,taa.1.bQ⟩:dt),xf,xg,xi,xj,xk,taa.2.2.cO,taa.2.2.ay,taa.2.2.av,taa.2.2.aU,taa.2.2.gH) H
 refine WP.skip<|wr 10 392<|gl 3 [9,8,7]<|el H fun tad har H=>cx 17 [1,12,13,14,15,16,0,2,3,4,5,6,7,8,9,10,11] (cL 11) (kJ.c har (p0_0:=gc.1) (p0_1:=gc.2.1) (p0_2:=gc.2.2.1) (p0_3:=gc.2.2.2.1) (p0_4:=gc.2.2.2.2)) nofun fun _ _=>?_
 refine go 1<|ei Q T Q Q<|ei Q T Q Q<|al Q T BG nofun fun bn=>sy 0 ?_
 refine go 1<|WP.seq<|so<|ce H ?_ ?_ <;> intro H
 ·
  refine sp ?_
  have H:=H.fH
  cases H.out; exact et () 18 [0,2,3,4,5,6,7,8,9,10,11,12,13,14,15,16,17,1] 17
 refine WP.skip<|rg 2 2<|gl 1 [0]<|sy 14 ?_
 refine .fin<|rg 3 0<|go 3<|ns 18 [0,7,13,14,15,16,17,2,3,4,5,6,8,9,10,11,12,1] 3 ?_
 exact bk ja (aw (xc+1),(⟨tad.1.fV,tad.1.fM,tad.1.fT,tad.1.fP,tad.1.fL,tad.1.bQ⟩:dt),(⟨taa.1.fV,taa.1.fM,taa.1.fT,taa.1.fP,taa.1.fL,taa.1.bQ⟩:dt),tad.2.2.cO,tad.2.2.ay,tad.2.2.av,tad.2.2.aU,tad.2.2.gH,taa.2.2.cO,taa.2.2.ay,taa.2.2.av,taa.2.2.aU,taa.2.2.gH) H
end Go.Proofs.YtfknmdelgepbjaaGreatDoor
