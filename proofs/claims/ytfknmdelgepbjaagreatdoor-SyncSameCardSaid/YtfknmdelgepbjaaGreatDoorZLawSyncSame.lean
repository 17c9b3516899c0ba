import Derived.Test.YtfknmdelgepbjaaGreatDoorZTab
import Derived.Test.YtfknmdelgepbjaaGreatDoorZWalks4
import Derived.Test.YtfknmdelgepbjaaGreatDoorConQ
import Derived.Test.YtfknmdelgepbjaaGreatDoorConA6
import Derived.Test.YtfknmdelgepbjaaGreatDoorConC4
import Derived.Lib.Join
import Derived.Eval
set_option linter.all false
set_option autoImplicit true
set_option maxRecDepth 10000
set_option maxHeartbeats 20000000
namespace Go.Proofs.YtfknmdelgepbjaaGreatDoor
open Go Go.Sp Tryz
theorem dC.c (h:dC.f k a0 a1 a2 a3 a4 a5=some r):Tr prog 7 [sl dt.K a0,sl dt.K a1,sl ak.K a2,vI a3,vI a4,vI a5] [lax] (γ:=Unit) (fun _=>True) (fun g=>vB r) (fun g=>[lax]):=by
 refine tf func7 h fun R0 F H=>?_
 refine so<|wr 13 3852<|go 2<|el H fun ta haa H=>cx 1 [0] (cL 9) (oM.c haa) nofun fun ga _=>?_
 refine Dv.gh (oi (E':=[(0,sl dt.K a0),(1,sl dt.K a1),(2,sl ak.K a2),(3,vI a3),(4,vI a4),(5,vI a5),(12,vB false),(26,sl Event.K ta)]) (l':=[lax]++F) 0 Q (ar Q ay (ar Q ay (ar Q ay (ar Q ay (ar Q ay (ar Q ay (ar Q ay (ar Q kJ jG)))))))) (gL (.cons bU .nil) fun _=>bU)) (fun _ _=>?_)
 refine el H fun tc hac H=>cx 1 [0] (cL 8) (gB.c hac) nofun fun gb _=>?_
 refine go 1<|eh Q T Q Q<|eh Q T Q Q<|eh Q T Q Q<|al Q T KP nofun fun ba=>al Q T GI nofun fun bc=>sy 1 ?_
 refine sy 0 ?_
 refine go 1<|WP.seq<|so<|ce H ?_ ?_ <;> intro H
 ·
  refine sp ?_
  cases H.out; exact et () 8 [0,1,2,3,4,5,6,7] 7
 refine WP.skip<|sr H id [3,4,5,13,14] (fun _=>[]) (fun pa=>[(0,aJ bc 43 [sl aQ.K pa.2.2.1.fV.fD,sl MK.K pa.2.2.1.fM,sl ak.K pa.2.2.1.fT.fL,sl dp pa.2.2.1.fT.fx,sl ak.K pa.2.2.1.fP.fL,sl (bG .i64) pa.2.2.1.fP.fx,sl kR.K pa.2.2.1.fL,vI pa.2.2.1.aV]),(2,aO.O gb.1 pa.2.2.2.1),(3,kb.O gb.2.1 pa.2.2.2.2.1),(4,cC.O gb.2.2.1 pa.2.2.2.2.2.1),(5,cJ.O gb.2.2.2.1 pa.2.2.2.2.2.2.1),(6,cI.O gb.2.2.2.2 pa.2.2.2.2.2.2.2)]) (fun pa H=>?_) (fun H=>?_)
 rotate_left
 ·
  refine so<|WP.block<|ws 8 [0,1,2,3,4,5,6,7] 0 ?_
  refine lq (fun j_ (pc:Int×dQ×aO×kb×cC×cJ×cI)=>dC.l0 k a2 j_ pc.1 pc.2.1 pc.2.2.1 pc.2.2.2.1 pc.2.2.2.2.1 pc.2.2.2.2.2.1 pc.2.2.2.2.2.2) (0,(⟨tc.2.1.fV,tc.2.1.fM,tc.2.1.fT,tc.2.1.fP,tc.2.1.fL,tc.2.1.aV⟩:dQ),tc.1.dx,tc.1.aB,tc.1.aw,tc.1.bq,tc.1.jE) H [2,3,4,5,13,14] (fun pc=>[(16,vI pc.1)]) (fun pc=>[(0,aJ bc 43 [sl aQ.K pc.2.1.fV.fD,sl MK.K pc.2.1.fM,sl ak.K pc.2.1.fT.fL,sl dp pc.2.1.fT.fx,sl ak.K pc.2.1.fP.fL,sl (bG .i64) pc.2.1.fP.fx,sl kR.K pc.2.1.fL,vI pc.2.1.aV]),(2,aO.O gb.1 pc.2.2.1),(3,kb.O gb.2.1 pc.2.2.2.1),(4,cC.O gb.2.2.1 pc.2.2.2.2.1),(5,cJ.O gb.2.2.2.1 pc.2.2.2.2.2.1),(6,cI.O gb.2.2.2.2 pc.2.2.2.2.2.2)]) ?_
  rintro j_ ⟨xc,xd,xe,xf,xg,xi,xj⟩ H
  rcases j_ with _ | ja
  ·
   exact (aW.no H).elim
  try dsimp only at H
  rw [dC.l0] at H
  refine WP.seq<|wr 8 0<|go 2<|Dv.eX Q T Q fS<|gp 2 ?_
  rcases bm H with ⟨cc,H⟩ | ⟨cc,H⟩
  ·
   refine sh 36 cc ?_
   refine sh 37 cc ?_
   refine go 3<|WP.cond Q nofun (fun _=>?_)
   refine WP.exit ?_
   have H:=H.out
   exact jn (xc,false,(⟨xd.fV,xd.fM,xd.fT,xd.fP,xd.fL,xd.aV⟩:dQ),xe,xf,xg,xi,xj) H
  refine sh 36 cc ?_
  refine sh 37 cc ?_
  refine go 3<|cf H ?_ ?_ <;> intro H
  ·
   refine WP.exit ?_
   have H:=H.out
   exact jn (xc,decide (xc<8),(⟨xd.fV,xd.fM,xd.fT,xd.fP,xd.fL,xd.aV⟩:dQ),xe,xf,xg,xi,xj) H
  refine WP.skip<|WP.seq<|WP.block<|WP.seq<|WP.dgf (kf:=11) mX [(0,false),(1,false),(2,false),(3,false),(4,false),(5,false),(6,false),(7,true),(8,false),(9,false),(10,false)] [(12,true),(13,false)] Q kr<|gl 4 [1,0]<|gr H fun gi H=>Dv.jA Q T Q Q fS iB jh gi.1 gi.2<|ll Q T Q wj Q<|el H fun te had H=>cl Q (cL 12) Q (kU.c had)<|Dv.float ?_ (fun hk_=>?_)
  ·
   refine qY Q T GI pU (fun bd=>?_)
   refine el H fun tg hae H=>cx 9 [8,3,4,5,6,7,0,1,2] (cL 11) (mw.c hae (p0_0:=gb.1) (p0_1:=gb.2.1) (p0_2:=gb.2.2.1) (p0_3:=gb.2.2.2.1) (p0_4:=gb.2.2.2.2)) pC fun _ _=>?_
   refine go 1<|eh Q T Q Q<|eh Q T Q Q<|sx 6 Q T Q Q cA HO Q Q Q pD ?_
   refine go 1<|WP.seq<|so<|ce H ?_ ?_ <;> intro H
   ·
    refine sp ?_
    have H:=H.fU
    cases H.out; exact et () 9 [1,2,3,4,5,6,7,8,0] 8
   refine WP.skip<|rg 2 2<|gl 1 [6]<|sy 7 ?_
   refine .fin<|rg 3 0<|go 3<|ns 9 [6,7,8,1,2,3,4,5,0] 1 ?_
   exact bk ja (av (xc+1),(⟨tg.1.fV,tg.1.fM,tg.1.fT,tg.1.fP,tg.1.fL,tg.1.aV⟩:dQ),tg.2.2.dx,tg.2.2.aB,tg.2.2.aw,tg.2.2.bq,tg.2.2.jE) H
  refine el H fun tj haf H=>cx 8 [7,2,3,4,5,6,0,1] (cL 11) (mw.c haf (p0_0:=gb.1) (p0_1:=gb.2.1) (p0_2:=gb.2.2.1) (p0_3:=gb.2.2.2.1) (p0_4:=gb.2.2.2.2)) pC fun _ _=>?_
  refine go 1<|eh Q T Q Q<|eh Q T Q Q<|.fin<|qY Q T GI pU (fun be=>?_)
  refine sx 0 Q T Q Q cA HO Q Q Q pD ?_
  refine go 1<|WP.seq<|so<|ce H ?_ ?_ <;> intro H
  ·
   refine sp ?_
   have H:=H.fU
   cases H.out; exact et () 9 [0,2,3,4,5,6,7,8,1] 8
  refine WP.skip<|rg 2 2<|gl 1 [0]<|sy 7 ?_
  refine .fin<|rg 3 0<|go 3<|ns 9 [0,7,8,2,3,4,5,6,1] 1 ?_
  exact bk ja (av (xc+1),(⟨tj.1.fV,tj.1.fM,tj.1.fT,tj.1.fP,tj.1.fL,tj.1.aV⟩:dQ),tj.2.2.dx,tj.2.2.aB,tj.2.2.aw,tj.2.2.bq,tj.2.2.jE) H
 refine WP.seq<|WP.dgf (kf:=15) mX [(0,false),(1,false),(2,false),(3,false),(4,false),(5,false),(6,false),(7,false),(8,false),(9,false),(10,false),(11,true),(12,false),(13,false),(14,false)] [(16,true),(17,false)] Q kr<|gl 2 [1]<|el H fun tm hag H=>cl Q (cL 13) Q (fb.c hag)<|gl 3 [0]<|Dv.eX Q T Q Hn<|go 1<|el H fun tn hah H=>cl Q (cL 10) Q (aS.c hah)<|go 1<|el H fun tp hai H=>cl Q (cL 10) Q (aS.c hai)<|Dv.float ?_ (fun hk_=>?_)
 ·
  refine qY Q T Av pU (fun bg=>?_)
  refine el H fun tq haj H=>cx 9 [3,4,5,6,7,0,1,2,8] (cL 14) (sync_Make.c haj (p0_0:=gb.1) (p0_1:=gb.2.1) (p0_2:=gb.2.2.1) (p0_3:=gb.2.2.2.1) (p0_4:=gb.2.2.2.2)) pC fun _ _=>?_
  refine go 1<|eh Q T Q Q<|eh Q T Q Q<|sx 5 Q T Q Q cA D1 Q Q Q pD ?_
  refine go 1<|WP.seq<|WP.dgf (kf:=15) mX [(0,false),(1,false),(2,false),(3,false),(4,false),(5,false),(6,false),(7,false),(8,false),(9,false),(10,false),(11,true),(12,false),(13,false),(14,false)] [(16,true),(17,false)] Q kr<|gl 2 [7]<|el H fun tu hak H=>cl Q (cL 13) Q (fb.c hak)<|gl 3 [6]<|Dv.eX Q T Q Hn<|go 1<|el H fun tw ham H=>cl Q (cL 10) Q (aS.c ham)<|go 1<|el H fun tx han H=>cl Q (cL 10) Q (aS.c han)<|Dv.float ?_ (fun hk_=>?_)
  ·
   refine qY Q T Av pU (fun bh=>?_)
   refine el H fun tz hao H=>cx 10 [1,2,3,4,5,0,6,7,8,9] (cL 14) (sync_Make.c hao (p0_0:=gb.1) (p0_1:=gb.2.1) (p0_2:=gb.2.2.1) (p0_3:=gb.2.2.2.1) (p0_4:=gb.2.2.2.2)) pC fun _ _=>?_
   refine go 1<|eh Q T Q Q<|eh Q T Q Q<|sx 5 Q T Q Q cA D1 Q Q Q pD ?_
   refine go 1<|wd mX 27 0<|gl 2 [6,5]<|el H fun taa hap H=>cl Q (cL 29) Q (de.c hap)<|gl 1 [6]<|el H fun tac haq H=>cl Q (cL 17) Q (dH.c haq)<|gl 1 [5]<|el H fun tad har H=>cl Q (cL 17) Q (dH.c har)<|el H fun tae has H=>cl Q (cL 16) Q (dq.c has)<|nQ Q Q Q (oc W4)<|gp 1 ?_
   cases cg:(taa==tae)
   ·
    have H:=H.cf cg
    refine gq 17 ?_
    cases H.out; exact et () 10 [0,1,2,3,4,5,6,7,8,9] 9
   have H:=H.ct cg
   refine gl 2 [6,6]<|el H fun taf hau H=>Dv.call Q (gg Q) (cL 29) Q (de.c hau)<|gp 2 ?_
   cases ci:taf
   ·
    have H:=H.cf ci
    refine gq 12 ?_
    cases H.out; exact et () 10 [0,1,2,3,4,5,6,7,8,9] 9
   have H:=H.ct ci
   refine gl 2 [5,6]<|el H fun tag hav H=>Dv.call Q (gg Q) (cL 29) Q (de.c hav)<|gl 2 [6,5]<|el H fun tah haw H=>Dv.call Q (gg Q) (cL 29) Q (de.c haw)<|bng Q Q Q Q (oc W4)<|gp 2 ?_
   cases cj:(tag==tah)
   ·
    have H:=H.cf cj
    refine gq 3 ?_
    cases H.out; exact et () 10 [0,1,2,3,4,5,6,7,8,9] 9
   have H:=H.ct cj
   refine el H fun tai hax H=>oU 10 [9,0,1,2,3,4,5,6,7,8] (cL 22) (lA.c hax) ?_
   refine gq 2 ?_
   cases H.out; exact et () 10 [0,1,2,3,4,5,6,7,8,9] 9
  refine el H fun taj hay H=>cx 9 [0,1,2,3,4,5,6,7,8] (cL 14) (sync_Make.c hay (p0_0:=gb.1) (p0_1:=gb.2.1) (p0_2:=gb.2.2.1) (p0_3:=gb.2.2.2.1) (p0_4:=gb.2.2.2.2)) pC fun _ _=>?_
  refine go 1<|eh Q T Q Q<|eh Q T Q Q<|.fin<|qY Q T Av pU (fun bi=>?_)
  refine sx 0 Q T Q Q cA D1 Q Q Q pD ?_
  refine go 1<|wd mX 27 0<|gl 2 [6,0]<|el H fun taa hap H=>cl Q (cL 29) Q (de.c hap)<|gl 1 [6]<|el H fun tac haq H=>cl Q (cL 17) Q (dH.c haq)<|gl 1 [0]<|el H fun tad har H=>cl Q (cL 17) Q (dH.c har)<|el H fun tae has H=>cl Q (cL 16) Q (dq.c has)<|nQ Q Q Q (oc W4)<|gp 1 ?_
  cases cg:(taa==tae)
  ·
   have H:=H.cf cg
   refine gq 17 ?_
   cases H.out; exact et () 10 [0,1,2,3,4,5,6,7,8,9] 9
  have H:=H.ct cg
  refine gl 2 [6,6]<|el H fun taf hau H=>Dv.call Q (gg Q) (cL 29) Q (de.c hau)<|gp 2 ?_
  cases ci:taf
  ·
   have H:=H.cf ci
   refine gq 12 ?_
   cases H.out; exact et () 10 [0,1,2,3,4,5,6,7,8,9] 9
  have H:=H.ct ci
  refine gl 2 [0,6]<|el H fun tag hav H=>Dv.call Q (gg Q) (cL 29) Q (de.c hav)<|gl 2 [6,0]<|el H fun tah haw H=>Dv.call Q (gg Q) (cL 29) Q (de.c haw)<|bng Q Q Q Q (oc W4)<|gp 2 ?_
  cases cj:(tag==tah)
  ·
   have H:=H.cf cj
   refine gq 3 ?_
   cases H.out; exact et () 10 [0,1,2,3,4,5,6,7,8,9] 9
  have H:=H.ct cj
  refine el H fun tai hax H=>oU 10 [9,0,1,2,3,4,5,6,7,8] (cL 22) (lA.c hax) ?_
  refine gq 2 ?_
  cases H.out; exact et () 10 [0,1,2,3,4,5,6,7,8,9] 9
 refine el H fun tak haz H=>cx 8 [2,3,4,5,6,0,1,7] (cL 14) (sync_Make.c haz (p0_0:=gb.1) (p0_1:=gb.2.1) (p0_2:=gb.2.2.1) (p0_3:=gb.2.2.2.1) (p0_4:=gb.2.2.2.2)) pC fun _ _=>?_
 refine go 1<|eh Q T Q Q<|eh Q T Q Q<|.fin<|qY Q T Av pU (fun bj=>?_)
 refine sx 0 Q T Q Q cA D1 Q Q Q pD ?_
 refine go 1<|WP.seq<|WP.dgf (kf:=15) mX [(0,false),(1,false),(2,false),(3,false),(4,false),(5,false),(6,false),(7,false),(8,false),(9,false),(10,false),(11,true),(12,false),(13,false),(14,false)] [(16,true),(17,false)] Q kr<|gl 2 [7]<|el H fun tu hak H=>cl Q (cL 13) Q (fb.c hak)<|gl 3 [6]<|Dv.eX Q T Q Hn<|go 1<|el H fun tw ham H=>cl Q (cL 10) Q (aS.c ham)<|go 1<|el H fun tx han H=>cl Q (cL 10) Q (aS.c han)<|Dv.float ?_ (fun hk_=>?_)
 ·
  refine qY Q T Av pU (fun bh=>?_)
  refine el H fun tz hao H=>cx 10 [2,3,4,5,6,0,1,7,8,9] (cL 14) (sync_Make.c hao (p0_0:=gb.1) (p0_1:=gb.2.1) (p0_2:=gb.2.2.1) (p0_3:=gb.2.2.2.1) (p0_4:=gb.2.2.2.2)) pC fun _ _=>?_
  refine go 1<|eh Q T Q Q<|eh Q T Q Q<|sx 5 Q T Q Q cA D1 Q Q Q pD ?_
  refine go 1<|wd mX 27 0<|gl 2 [6,5]<|el H fun taa hap H=>cl Q (cL 29) Q (de.c hap)<|gl 1 [6]<|el H fun tac haq H=>cl Q (cL 17) Q (dH.c haq)<|gl 1 [5]<|el H fun tad har H=>cl Q (cL 17) Q (dH.c har)<|el H fun tae has H=>cl Q (cL 16) Q (dq.c has)<|nQ Q Q Q (oc W4)<|gp 1 ?_
  cases cg:(taa==tae)
  ·
   have H:=H.cf cg
   refine gq 17 ?_
   cases H.out; exact et () 10 [0,1,2,3,4,5,6,7,8,9] 9
  have H:=H.ct cg
  refine gl 2 [6,6]<|el H fun taf hau H=>Dv.call Q (gg Q) (cL 29) Q (de.c hau)<|gp 2 ?_
  cases ci:taf
  ·
   have H:=H.cf ci
   refine gq 12 ?_
   cases H.out; exact et () 10 [0,1,2,3,4,5,6,7,8,9] 9
  have H:=H.ct ci
  refine gl 2 [5,6]<|el H fun tag hav H=>Dv.call Q (gg Q) (cL 29) Q (de.c hav)<|gl 2 [6,5]<|el H fun tah haw H=>Dv.call Q (gg Q) (cL 29) Q (de.c haw)<|bng Q Q Q Q (oc W4)<|gp 2 ?_
  cases cj:(tag==tah)
  ·
   have H:=H.cf cj
   refine gq 3 ?_
   cases H.out; exact et () 10 [0,1,2,3,4,5,6,7,8,9] 9
  have H:=H.ct cj
  refine el H fun tai hax H=>oU 10 [9,0,1,2,3,4,5,6,7,8] (cL 22) (lA.c hax) ?_
  refine gq 2 ?_
  cases H.out; exact et () 10 [0,1,2,3,4,5,6,7,8,9] 9
 refine el H fun taj hay H=>cx 9 [1,2,3,4,5,0,6,7,8] (cL 14) (sync_Make.c hay (p0_0:=gb.1) (p0_1:=gb.2.1) (p0_2:=gb.2.2.1) (p0_3:=gb.2.2.2.1) (p0_4:=gb.2.2.2.2)) pC fun _ _=>?_
 refine go 1<|eh Q T Q Q<|eh Q T Q Q<|.fin<|qY Q T Av pU (fun bi=>?_)
 refine sx 0 Q T Q Q cA D1 Q Q Q pD ?_
 refine go 1<|wd mX 27 0<|gl 2 [6,0]<|el H fun taa hap H=>cl Q (cL 29) Q (de.c hap)<|gl 1 [6]<|el H fun tac haq H=>cl Q (cL 17) Q (dH.c haq)<|gl 1 [0]<|el H fun tad har H=>cl Q (cL 17) Q (dH.c har)<|el H fun tae has H=>cl Q (cL 16) Q (dq.c has)<|nQ Q Q Q (oc W4)<|gp 1 ?_
 cases cg:(taa==tae)
 ·
  have H:=H.cf cg
  refine gq 17 ?_
  cases H.out; exact et () 10 [0,1,2,3,4,5,6,7,8,9] 9
 have H:=H.ct cg
 refine gl 2 [6,6]<|el H fun taf hau H=>Dv.call Q (gg Q) (cL 29) Q (de.c hau)<|gp 2 ?_
 cases ci:taf
 ·
  have H:=H.cf ci
  refine gq 12 ?_
  cases H.out; exact et () 10 [0,1,2,3,4,5,6,7,8,9] 9
 have H:=H.ct ci
 refine gl 2 [0,6]<|el H fun tag hav H=>Dv.call Q (gg Q) (cL 29) Q (de.c hav)<|gl 2 [6,0]<|el H fun tah haw H=>Dv.call Q (gg Q) (cL 29) Q (de.c haw)<|bng Q Q Q Q (oc W4)<|gp 2 ?_
 cases cj:(tag==tah)
 ·
  have H:=H.cf cj
  refine gq 3 ?_
  cases H.out; exact et () 10 [0,1,2,3,4,5,6,7,8,9] 9
 have H:=H.ct cj
 refine el H fun tai hax H=>oU 10 [9,0,1,2,3,4,5,6,7,8] (cL 22) (lA.c hax) ?_
 refine gq 2 ?_
 cases H.out; exact et () 10 [0,1,2,3,4,5,6,7,8,9] 9
end Go.Proofs.YtfknmdelgepbjaaGreatDoor
