import Derived.Test.YtfknmdelgepbjaaGreatDoorWZWalks1
set_option linter.all false
set_option autoImplicit true
set_option maxRecDepth 10000
set_option maxHeartbeats 20000000
namespace Go.Proofs.YtfknmdelgepbjaaGreatDoor
open Go Go.Sp Tryz
theorem dD.c (h:dD.f k a0 a1=some r):Pt prog 218 [agg (aK.enc a0),vS a1] (vI r):=by
 refine pf func218 h fun R0 F H=>?_
 refine wr 2 1<|Dv.box Q T Q cA nofun fun ba=>go 1<|wr 4 0<|gl 2 [0]<|el H fun ta haa H=>cl Q (cL 148) Q (eG.c haa)<|go 1<|WP.seq<|so<|ce H ?_ ?_ <;> intro H
 ·
  refine sp ?_
  cases H.out; exact ek 1
 refine WP.skip<|wr 4 4<|go 2<|gr H fun ga H=>?_
 obtain ⟨ti867,ti867a,ti867b,ti867c,ti867d⟩:=Ib
 refine Dv.EI (Kd:=(bz .i64)) (0:Int) Q T Q Q rP ti867a ti867b ti867c ti867d Q dc Q ga nofun (fun va=>?_)
 refine go 1<|WP.jh H id (fun pa=>[(5,vI ta),(6,eq va.1)]) (fun pa=>[aC ba 113 (aK.enc a0),own (bz .i64) va.1 pa.2.2]++F) (fun pa H=>?_) (fun H=>?_)
 ·
  refine wr 5 0<|go 2<|gr H fun gb H=>?_
  have hac:ta.toNat<pa.2.2.length:=bq gb
  refine Dv.jQ Q T Q (aa 1 Q) Q rP U3 c3 gb.1 gb.2<|Dv.na (j:=ta.toNat) (f:=0) (p:=vI (pa.2.2.getD ta.toNat default)) Q T Q (aa 1 Q) hac U3 Q Q<|gq 1 ?_
  cases H.out; exact ek 2
 refine so<|WP.block<|ws 2 [1,0] 0 ?_
 refine lq (fun j_ (pc:Int×(List Int))=>dD.l0 k a0 ta j_ pc.1 pc.2) (0,List.replicate (av (ta+1)).toNat (0:Int)) H [2,5,6] (fun pc=>[(7,vI pc.1)]) (fun pc=>[(1,own (bz .i64) va.1 pc.2)]) ?_
 rintro j_ ⟨xc,xd⟩ H
 rcases j_ with _ | ja
 ·
  exact (aU.no H).elim
 try dsimp only at H
 rw [dD.l0] at H
 refine WP.seq<|so<|cf H ?_ ?_ <;> intro H
 ·
  refine WP.exit ?_
  have H:=H.out
  exact jn (xc,decide (xc≤ta),xd) H
 refine WP.skip<|WP.jh H id (fun pe=>[(2,dR ba),(5,vI ta),(6,eq va.1),(7,vI xc)]) (fun pe=>[aC ba 113 (aK.enc a0),own (bz .i64) va.1 pe.2.2]++F) (fun pe H=>?_) (fun H=>?_)
 ·
  exact rg 3 0<|go 3<|bk ja (av (xc+1),pe.2.2) H
 refine WP.block<|so<|WP.block<|ws 2 [0,1] 0 ?_
 refine lq (fun j_ (pg:Int×(List Int))=>dD.l1 k a0 xc j_ pg.1 pg.2) (0,xd) H [2,5,6,7] (fun pg=>[(8,vI pg.1)]) (fun pg=>[(1,own (bz .i64) va.1 pg.2)]) ?_
 rintro j_ ⟨xe,xf⟩ H
 rcases j_ with _ | jc
 ·
  exact (aU.no H).elim
 try dsimp only at H
 rw [dD.l1] at H
 refine WP.seq<|wr 9 0<|gl 4 [0]<|gr H fun gi H=>Dv.fR Q T Q Q qI kL mL gi.1 gi.2<|fr Q T Q Db Q<|kI Q T Q sc72 Q<|Dv.fj Q T Q dj<|go 1<|cf H ?_ ?_ <;> intro H
 ·
  refine WP.exit ?_
  have H:=H.out
  exact jn (xe,decide (xe<(((Event.K.at a0.fL xc).ag).length:Int)),xf) H
 refine WP.skip<|WP.seq<|WP.block<|dg mX 24 8388608<|go 4<|gr H fun gj H=>?_
 have had:xc.toNat<xf.length:=bq gj
 refine Dv.jQ Q T Q (aa 1 Q) Q rP U3 c3 gj.1 gj.2<|Dv.na (j:=xc.toNat) (f:=0) (p:=vI (xf.getD xc.toNat default)) Q T Q (aa 1 Q) had U3 Q Q<|gl 5 [0,0]<|gr H fun gk H=>Dv.fR Q T Q Q qI kL mL gk.1 gk.2<|fr Q T Q Db Q<|kI Q T Q sc72 Q<|go 1<|gr H fun gm H=>Dv.fR Q T Q Q dj U9 c9 gm.1 gm.2<|kI Q T Q oc Q<|el H fun tc hae H=>cl Q (cL 148) Q (eG.c hae)<|gr H fun gn H=>?_
 have haf:tc.toNat<xf.length:=bq gn
 refine Dv.jQ Q T Q (aa 1 Q) Q rP U3 c3 gn.1 gn.2<|Dv.na (j:=tc.toNat) (f:=0) (p:=vI (xf.getD tc.toNat default)) Q T Q (aa 1 Q) haf U3 Q Q<|go 1<|Dv.EG Q T Q Q<|gr H fun gu H=>?_
 have hag:xc.toNat<xf.length:=bq gu
 exact Dv.jQ Q T Q (aa 1 Q) Q rP U3 c3 gu.1 gu.2<|Dv.Jg (j:=xc.toNat) (f:=0) (jj:=1) (max (xf.getD xc.toNat default) (av ((xf.getD tc.toNat default)+1))) Q T Q Q (cells_one (ah Q)) U3 c3 Q Q hag (Nat.le_of_ble_eq_true Q) Q (fun _=>fG kr)<|.fin<|rg 3 0<|go 3<|bk jc (av (xe+1),xf.set xc.toNat (max (xf.getD xc.toNat default) (av ((xf.getD tc.toNat default)+1)))) H
theorem dI.c (h:dI.f k a0 a1=some r):Pt prog 152 [agg (aK.enc a0),vS a1] (agg (Pos.enc r)):=by
 refine pf func152 h fun R0 F H=>?_
 refine wr 2 3<|Dv.box Q T Q cA nofun fun ba=>al Q T uk nofun fun bc=>.fin<|wr 6 32<|gl 2 [1]<|el H fun ta haa H=>cl Q (cL 218) Q (dD.c haa)<|go 1<|Dv.kJ (qs:=[vI ta,vS a1]) (css:=[[vI ta],[vS a1]]) Q T wI F9 Jj Q ⟨(cells_one (ah Q)),⟨(cells_one (ah Q)),T⟩⟩ Q Q<|sy 0 ?_
 refine .fin ?_
 cases H.out; exact r2 i2 Q (.cons (au Q wI Q Ak (aa 0 Q) Q) .nil)
theorem kQ.c (h:kQ.f k a0 a1 a2=some r):Pt prog 95 [agg (bA.enc a0),vS a1,vS a2] (kZ [agg (Pos.enc r.1),vB r.2]):=by
 refine pf func95 h fun R0 F H=>?_
 refine wr 3 3<|Dv.box Q T Q cA nofun fun ba=>al Q T uk nofun fun bc=>go 1<|wr 5 24<|gl 2 [1]<|el H fun ta haa H=>cl Q (cL 77) Q (iz.c haa)<|al Q T oK nofun fun bd=>sy 0 ?_
 refine .fin<|WP.seq<|wr 4 0<|gl 2 [0]<|el H fun tc hac H=>cl Q (cL 148) Q (eG.c hac)<|go 1<|cf H ?_ ?_ <;> intro H
 ·
  refine WP.skip<|wr 5 8<|gl 2 [0]<|el H fun te had H=>cl Q (cL 152) Q (dI.c had)<|sy 1 ?_
  refine gq 1 ?_
  cases H.out; exact r3 i2 Q (.cons (au Q wI Q Ak (aa 1 Q) Q) (.cons (aB Q) .nil))
 refine wr 3 2<|Dv.kJ (qs:=[vI 0,vS eE]) (css:=[]) Q T wI F9 Jj Q T Q Q<|sy 1 ?_
 refine gq 1 ?_
 cases H.out; exact r3 i2 Q (.cons (au Q wI Q Ak (aa 1 Q) Q) (.cons (aB Q) .nil))
theorem q7.c (h:q7.f k a0 a1 a2=some r):Pt prog 38 [agg (qJ.enc a0),agg (bA.enc a1),agg (ak.enc a2)] (kZ [agg (qJ.enc r.1),vB r.2.1,vI r.2.2]):=by
 refine pf func38 h fun R0 F H=>?_
 refine wr 6 15<|Dv.box Q T Q cA nofun fun ba=>Dv.box Q T Q cA nofun fun bc=>Dv.box Q T Q cA nofun fun bd=>al Q T JY nofun fun be=>go 2<|wr 3 0<|gl 1 [1]<|el H fun ta haa H=>cl Q (cL 92) Q (gI.c haa)<|go 1<|WP.seq<|wr 7 0<|kX 4 [1] ?_
 cases cc:(a2.aH != 1)
 rotate_left
 ·
  have H:=H.ct cc
  refine go 3<|WP.cond Q (fun _=>?_) nofun
  refine wr 4 2<|gl 1 [3]<|sy 0 ?_
  refine gq 2 ?_
  cases H.out; exact r4 i2 Q (.cons (au Q AI Q Ht (aa 0 Q) Q) (.cons (aB Q) (.cons (aB Q) .nil)))
 have H:=H.cf cc
 refine go 3<|ce H ?_ ?_ <;> intro H
 ·
  refine wr 4 2<|gl 1 [3]<|sy 0 ?_
  refine gq 2 ?_
  cases H.out; exact r4 i2 Q (.cons (au Q AI Q Ht (aa 0 Q) Q) (.cons (aB Q) (.cons (aB Q) .nil)))
 refine WP.skip<|wr 9 0<|gl 7 [2,1,1,1]<|el H fun tc hac H=>cl Q (cL 93) Q (oH.c hac)<|go 1<|WP.seq<|so<|ce H ?_ ?_ <;> intro H
 ·
  refine wr 13 3840<|gl 3 [3,1]<|el H fun te had H=>cl Q (cL 94) Q (kN.c had)<|go 1<|dV Q T Q Q<|dV Q T Q Q<|dV Q T Q Q<|al Q T Kq nofun fun bg=>al Q T u7 nofun fun bh=>sy 1 ?_
  refine sy 0 ?_
  refine go 1<|wr 7 16<|gl 3 [5,1]<|Dv.kJ (qs:=[sl MK.K a0.fL,vI te.1.pP,sl ak.K te.1.fL,vI te.1.qm]) (css:=[[sl MK.K a0.fL],n5.enc te.1]) Q T AI Gf Iv Q ⟨(cells_one dL),⟨(aS (n5.K.one _)),T⟩⟩ Q Q<|sy 2 ?_
  refine gq 2 ?_
  cases H.out; exact rt i2 Q () 6 [0,1,2,3,4,5] 6 (.cons (au Q AI Q Ht (aa 2 Q) Q) (.cons (aB Q) (.cons (aB Q) .nil)))
 refine WP.skip<|WP.seq<|so<|ce H ?_ ?_ <;> intro H
 ·
  refine wr 5 4<|gl 2 [3]<|sy 0 ?_
  refine gq 2 ?_
  cases H.out; exact r4 i2 Q (.cons (au Q AI Q Ht (aa 0 Q) Q) (.cons (aB Q) (.cons (aB Q) .nil)))
 refine WP.skip<|wr 12 1536<|gl 5 [2,1,1]<|el H fun tg hae H=>cl Q (cL 95) Q (kQ.c hae)<|go 1<|dV Q T Q Q<|dV Q T Q Q<|al Q T uk nofun fun bi=>sy 0 ?_
 refine go 1<|wd mX 11 0<|gl 3 [4,2]<|el H fun tj haf H=>cl Q (cL 40) Q (p9.c haf)<|gl 1 [0]<|el H fun tm hag H=>cl Q (cL 25) Q (eZ.c hag)<|go 1<|dV Q T Q Q<|dV Q T Q Q<|go 2<|wr 8 32<|gl 3 [4]<|Dv.kJ (qs:=[sl MK.K tm.1,vI a0.fP.pP,sl ak.K a0.fP.fL,vI a0.fP.qm]) (css:=[[sl MK.K tm.1],n5.enc a0.fP]) Q T AI Gf Iv Q ⟨(cells_one dL),⟨(aS (n5.K.one _)),T⟩⟩ Q Q<|go 1<|sy 1 ?_
 refine gq 2 ?_
 cases H.out; exact r5 i2 Q (.cons (au Q AI Q Ht (aa 1 Q) Q) (.cons (aB Q) (.cons (aB Q) .nil)))
theorem cJ.c (h:cJ.f a0 a1 a2=some r):Pt prog 219 [vI a0,vI a1,vI a2] (vB r):=by
 refine pf func219 h fun R0 F H=>?_
 refine so<|wr 9 0<|gp 4 ?_
 cases cc:decide (a1≤a0)
 ·
  have H:=H.cf cc
  refine gq 5 ?_
  cases H.out; exact ek 0
 have H:=H.ct cc
 refine gq 5 ?_
 cases H.out; exact ek 0
theorem iY.c (h:iY.f a0=some r):Pt prog 220 [agg (ak.enc a0)] (vB r):=by
 refine pf func220 h fun R0 F H=>?_
 refine wr 2 1<|Dv.box Q T Q cA nofun fun ba=>go 1<|sp ?_
 cases H.out; exact ek 1
theorem lB.c (h:lB.f k a0=some r):Pt prog 222 [vS a0] (vB r):=by
 refine pf func222 h fun R0 F H=>?_
 refine so<|wr 11 0<|gp 3 ?_
 cases cc:decide (a0=eE)
 rotate_left
 ·
  have H:=H.ct cc
  refine gq 8 ?_
  cases H.out; exact ek 0
 have H:=H.cf cc
 refine gp 4 ?_
 cases cg:decide (a0=(⟨#[109,97,105,110]⟩:BA))
 rotate_left
 ·
  have H:=H.ct cg
  refine gq 4 ?_
  cases H.out; exact ek 0
 have H:=H.cf cg
 refine go 1<|el H fun ta haa H=>Dv.call Q (gg Q) (cL 211) Q (eu.c haa)<|gq 2 ?_
 cases H.out; exact ek 0
theorem gL.c (h:gL.f k a0=some r):Pt prog 221 [agg (ak.enc a0)] (vB r):=by
 refine pf func221 h fun R0 F H=>?_
 refine wr 2 1<|Dv.box Q T Q cA nofun fun ba=>go 1<|wr 14 0<|gl 2 [0]<|el H fun ta haa H=>cl Q (cL 212) Q (kK.c haa)<|gp 1 ?_
 cases cc:ta
 ·
  have H:=H.cf cc
  refine gq 10 ?_
  cases H.out; exact ek 1
 have H:=H.ct cc
 refine gl 2 [0]<|el H fun tc hac H=>Dv.call Q (gg Q) (cL 211) Q (eu.c hac)<|gp 2 ?_
 cases cg:tc
 ·
  have H:=H.cf cg
  refine gq 5 ?_
  cases H.out; exact ek 1
 have H:=H.ct cg
 refine gl 2 [0]<|el H fun te had H=>Dv.call Q (gg Q) (cL 222) Q (lB.c had)<|gq 2 ?_
 cases H.out; exact ek 1
theorem fI.c {c0:Int→Int→Int→Option Bool} (h:fI.f k a0 c0=some r):Pt prog 223 [agg (ak.enc a0),rp [nb c0]] (vB r):=by
 refine pf func223 h fun R0 F H=>?_
 refine wr 2 1<|Dv.box Q T Q cA nofun fun ba=>go 1<|wr 15 0<|gl 2 [0]<|el H fun ta haa H=>cl Q (cL 212) Q (kK.c haa)<|gp 1 ?_
 cases cc:ta
 ·
  have H:=H.cf cc
  refine gq 11 ?_
  cases H.out; exact ek 1
 have H:=H.ct cc
 refine kX 4 [0] ?_
 cases cg:!a0.kb
 rotate_left
 ·
  have H:=H.ct cg
  refine gq 7 ?_
  cases H.out; exact ek 1
 have H:=H.cf cg
 refine kI Q (gg Q) Q JX Q<|gl 2 [0]<|el H fun tc hac H=>Dv.tS (ret:=vB tc) Q (gg Q) Q Q ⟨_,_,_,_,hac,Q,Q⟩<|gq 3 ?_
 cases H.out; exact ek 1
theorem fF.c {c0:Int→Int→Int→Option Bool} (h:fF.f a0 c0=some r):Pt prog 224 [agg (ak.enc a0),rp [nb c0]] (vB r):=by
 refine pf func224 h fun R0 F H=>?_
 refine wr 2 1<|Dv.box Q T Q cA nofun fun ba=>go 1<|wr 5 0<|kI Q T Q JX Q<|gl 2 [0]<|el H fun ta haa H=>Dv.tS (ret:=vB ta) Q T Q Q ⟨_,_,_,_,haa,Q,Q⟩<|gq 1 ?_
 cases H.out; exact ek 1
theorem nP.c (h:nP.f k=some r):Pt prog 153 [] (sl iG r):=by
 refine pf func153 h fun R0 F H=>?_
 refine so<|wr 2 3<|al Q T zc336 nofun fun ba=>sy 0 ?_
 refine .fin<|wr 4 0<|Dv.gh (sE (E':=[(0,dH),(1,rp [eq (.func (.func 219) #[] #[])])]) (l':=F) 0 Q (ar Q az (ar Q kR jM)) (fW .nil fun _=>bU)) (fun _ _=>?_)
 refine Dv.mkf (Q:=mb (fun a0_=>fI.f k a0_ cJ.f)) (cL 223) (by rintro _ _ ⟨a0_,r_,h_,rfl,rfl⟩; exact Pt.kj (fI.c h_) (.cons bQ (.cons (J8 (.cons (yv (cL 219) (by rintro _ _ ⟨a0_,a1_,a2_,r_,h_,rfl,rfl⟩; exact cJ.c h_)) .nil)) .nil))) Q T Q Q<|Dv.mkf (Q:=mb (fun a0_=>fF.f a0_ cJ.f)) (cL 224) (by rintro _ _ ⟨a0_,r_,h_,rfl,rfl⟩; exact Pt.kj (fF.c h_) (.cons bQ (.cons (J8 (.cons (yv (cL 219) (by rintro _ _ ⟨a0_,a1_,a2_,r_,h_,rfl,rfl⟩; exact cJ.c h_)) .nil)) .nil))) Q T Q Q<|Dv.lit iG ([iY.f,gL.f k,fun a0_=>fI.f k a0_ cJ.f,fun a0_=>fF.f a0_ cJ.f]:List (ak→Option Bool)) (css:=[[jW iY.f],[jW (gL.f k)],[jW (fun a0_=>fI.f k a0_ cJ.f)],[jW (fun a0_=>fF.f a0_ cJ.f)]]) Q T U273 LF c201 z201 Q dc dc Q ⟨(AQ (yv (cL 220) (by rintro _ _ ⟨a0_,r_,h_,rfl,rfl⟩; exact iY.c h_)) (ah Q)),⟨(AQ (yv (cL 221) (by rintro _ _ ⟨a0_,r_,h_,rfl,rfl⟩; exact gL.c h_)) (ah Q)),⟨(cells_one n9),⟨(cells_one n9),T⟩⟩⟩⟩ Q Q Q<|gq 1 ?_
 cases H.out; exact ek 0
theorem iR.c (h:iR.f a0=some r):Pt prog 154 [vI a0] (vB r):=by
 refine pf func154 h fun R0 F H=>?_
 refine so<|wr 7 0<|gp 3 ?_
 cases cc:decide (0≤a0)
 ·
  have H:=H.cf cc
  refine gq 4 ?_
  cases H.out; exact ek 0
 have H:=H.ct cc
 refine gq 4 ?_
 cases H.out; exact ek 0
theorem mg.c (h:mg.f a0=some r):Pt prog 155 [agg (ak.enc a0)] (agg (ak.enc r)):=by
 refine pf func155 h fun R0 F H=>?_
 refine wr 2 3<|Dv.box Q T Q cA nofun fun ba=>al Q T u7 nofun fun bc=>.fin<|wr 11 1536<|gl 8 [1,1,1,1]<|Dv.kJ (qs:=[vI a0.aH,vS eE,vS a0.aj,vS eE,vS eE,vB false,vB false,vI 0,vI 0,vI a0.aV,vI a0.bf]) (css:=[[vI a0.aH],[vS a0.aj],[vI a0.aV],[vI a0.bf]]) Q T gN BC vM Q ⟨(cells_one (ah Q)),⟨(cells_one (ah Q)),⟨(cells_one (ah Q)),⟨(cells_one (ah Q)),T⟩⟩⟩⟩ Q Q<|al Q T u7 nofun fun bd=>sy 0 ?_
 refine .fin<|WP.seq<|sN [2]<|WP.block<|so<|ce H ?_ ?_ <;> intro H
 ·
  refine dg mX 16 43520<|gl 9 [2,2,2,2]<|sx 0 Q T Q Q cE sz9 Q Q Q pD ?_
  refine go 1<|sx 0 Q T Q Q cE sz9 Q Q Q pD ?_
  refine go 1<|sx 0 Q T Q Q cE sz9 Q Q Q pD ?_
  refine go 1<|sv 0 ?_
  refine .fin<|wr 2 2<|gl 1 [0]<|sy 1 ?_
  refine .fin ?_
  cases H.out; exact r3 i2 Q (.cons (au Q gN Q iy (aa 1 Q) Q) .nil)
 refine so<|cf H ?_ ?_ <;> intro H
 ·
  refine so<|cf H ?_ ?_ <;> intro H
  ·
   refine WP.skip<|wr 2 2<|gl 1 [0]<|sy 1 ?_
   refine .fin ?_
   cases H.out; exact r3 i2 Q (.cons (au Q gN Q iy (aa 1 Q) Q) .nil)
  refine rg 4 8<|gl 3 [2]<|sy 0 ?_
  refine .fin<|wr 2 2<|gl 1 [0]<|sy 1 ?_
  refine .fin ?_
  cases H.out; exact r3 i2 Q (.cons (au Q gN Q iy (aa 1 Q) Q) .nil)
 refine wd mX 8 160<|gl 5 [2,2]<|sx 0 Q T Q Q cE sz9 Q Q Q pD ?_
 refine go 1<|sv 0 ?_
 refine .fin<|sN [2]<|cf H ?_ ?_ <;> intro H
 ·
  refine WP.skip<|wr 2 2<|gl 1 [0]<|sy 1 ?_
  refine .fin ?_
  cases H.out; exact r3 i2 Q (.cons (au Q gN Q iy (aa 1 Q) Q) .nil)
 refine rg 4 8<|gl 3 [2]<|sy 0 ?_
 refine .fin<|wr 2 2<|gl 1 [0]<|sy 1 ?_
 refine .fin ?_
 cases H.out; exact r3 i2 Q (.cons (au Q gN Q iy (aa 1 Q) Q) .nil)
theorem eN.c (h:eN.f k a0=some r):Pt prog 96 [agg (ak.enc a0)] (vB r):=by
 refine pf func96 h fun R0 F H=>?_
 refine wr 2 1<|Dv.box Q T Q cA nofun fun ba=>go 1<|WP.seq<|wd mX 18 0<|kX 4 [0] ?_
 cases cc:decide (a0.aH<0)
 rotate_left
 ·
  have H:=H.ct cc
  refine go 14<|WP.cond Q (fun _=>?_) nofun
  refine sp ?_
  cases H.out; exact ek 1
 have H:=H.cf cc
 refine kX 5 [0] ?_
 cases cg:decide (3<a0.aH)
 rotate_left
 ·
  have H:=H.ct cg
  refine go 9<|WP.cond Q (fun _=>?_) nofun
  refine sp ?_
  cases H.out; exact ek 1
 have H:=H.cf cg
 refine el H fun ta haa H=>Dv.call Q (gg Q) (cL 153) Q (nP.c haa)<|gl 2 [0]<|gr H fun ga H=>Dv.fR Q (gg Q) Q Q U273 LF c201 ga.1 ga.2<|kI Q (gg Q) Q sc201 Q<|gl 1 [0]<|el H fun tc hac H=>Dv.tS (ret:=vB tc) Q (gg Q) Q Q ⟨_,_,hac,Q,Q⟩<|go 2<|ce H ?_ ?_ <;> intro H
 ·
  refine sp ?_
  cases H.out; exact ek 1
 refine WP.skip<|so<|wd mX 22 0<|gl 2 [0,0]<|el H fun te had H=>cl Q (cL 155) Q (mg.c had)<|Dv.eqs [.int .i64 a0.aH,.string a0.ab,.string a0.aj,.string a0.bI,.string a0.ae,.bool a0.aq,.bool a0.kb,.int .i64 a0.bZ,.int .i64 a0.aX,.int .i64 a0.aV,.int .i64 a0.bf] [.int .i64 te.aH,.string te.ab,.string te.aj,.string te.bI,.string te.ae,.bool te.aq,.bool te.kb,.int .i64 te.bZ,.int .i64 te.aX,.int .i64 te.aV,.int .i64 te.bf] Q T Q Q Q Q JN (fun _=>mI 2 dc (fun _=>DJ a0 te))<|gp 1 ?_
 cases ci:decide (a0=te)
 ·
  have H:=H.cf ci
  refine gq 17 ?_
  cases H.out; exact ek 1
 have H:=H.ct ci
 refine gl 2 [0]<|el H fun tg hae H=>Dv.call Q (gg Q) (cL 156) Q (mq.c hae)<|gp 2 ?_
 cases cj:tg
 ·
  have H:=H.cf cj
  refine gq 12 ?_
  cases H.out; exact ek 1
 have H:=H.ct cj
 refine gl 3 [0]<|el H fun tj haf H=>Dv.Kc Q (gg Q) Q (cL 154) Q (iR.c haf)<|gp 2 ?_
 cases ck:tj
 ·
  have H:=H.cf ck
  refine gq 6 ?_
  cases H.out; exact ek 1
 have H:=H.ct ck
 refine gl 3 [0]<|el H fun tm hag H=>Dv.Kc Q (gg Q) Q (cL 154) Q (iR.c hag)<|gq 2 ?_
 cases H.out; exact ek 1
theorem lh.c {v0_0:OV} {b0_:Nat} (h:lh.f a0 a1=some r):Tr prog 157 [dR b0_,vS a1] [aC b0_ 265 [vS a0.cQ,eq v0_0.1],kU Value.string aY.O v0_0.1 a0.ao] (γ:=Unit) (fun _=>True) (fun g=>kZ [agg (Event.enc r.1),vB r.2]) (fun g=>[aC b0_ 265 [vS a0.cQ,eq v0_0.1],kU Value.string aY.O v0_0.1 a0.ao]):=by
 refine tf func157 h fun R0 F H=>?_
 refine wr 2 1<|al Q T uP nofun fun ba=>go 1<|WP.seq<|wr 4 0<|go 2<|el H fun ta haa H=>pN 3 [1,2,0] (cL 144) (eD.c haa (b0_:=b0_) (v0_0:=v0_0)) ?_
 refine go 1<|ce H ?_ ?_ <;> intro H
 ·
  refine wr 3 2<|Dv.kJ (qs:=[vS eE,vS eE,dH,vS eE,vS eE,vI 0]) (css:=[]) Q T kL E5 EP Q T Q Q<|sy 0 ?_
  refine gq 1 ?_
  cases H.out; exact rt i2 Q () 3 [0,1,2] 1 (.cons (nW (au Q kL Q mL (aa 0 Q) Q) (mV (.cons bQ (.cons bQ (.cons cR (.cons bQ (.cons bQ (.cons bQ .nil)))))))) (.cons (aB Q) .nil))
 refine WP.skip<|wr 12 1024<|gl 5 [1]<|vg (mE 2 Q) fun za hac=>?_
 refine Dv.E8 jx Q T Q (aa 0 Q) Q xv (dU U9) Bw (fun _=>Q)<|gr H fun ga H=>vg (qU hac Q ga (pm 4 [1,0,2,3])) fun _ _=>?_
 refine Dv.qw aY.nn Q T Q (aa 0 Q)<|vg (aY.jf 0 Q) fun gb had=>?_
 refine fp had Q T Q uA<|gl 1 [0]<|el H fun tc hae H=>cl Q (cL 146) Q (iJ.c hae)<|sy 3 ?_
 refine go 1<|wg (aY.shut (p:=((mget (cX a0.ao za) a1).getD jx)) (m:=(mget a0.ao a1).getD default) gb had (pm 5 [0,1,2,3,4])) fun _ _=>?_
 refine wg (oX hac Q ga (pm 5 [0,1,2,3,4])) fun _ _=>?_
 refine wg (iH hac Q (pm 4 [1,0,2,3])) fun _ _=>?_
 cases H.out; exact rt i2 Q () 3 [1,2,0] 1 (.cons (au Q kL Q mL (aa 1 Q) Q) (.cons (aB Q) .nil))
theorem jk.c {v0_0:OV} {b0_:Nat} (h:jk.f a0 a1 a2 a3=some r):Tr prog 97 [dR b0_,vS a1,vS a2,vS a3] [aC b0_ 186 [eq v0_0.1],kU Value.string bp.O v0_0.1 a0.bC] (γ:=Unit) (fun _=>True) (fun g=>vI r) (fun g=>[aC b0_ 186 [eq v0_0.1],kU Value.string bp.O v0_0.1 a0.bC]):=by
 refine tf func97 h fun R0 F H=>?_
 refine so<|wr 5 4<|go 2<|el H fun ta haa H=>cx 2 [0,1] (cL 88) (aP.c haa (b0_:=b0_) (v0_0:=v0_0)) nofun fun va _=>?_
 refine Dv.mkc (fst:=#[va.1]) Q T Q<|go 1<|wr 9 192<|go 2<|vg (bp.jf 2 Q) fun ga hac=>?_
 refine el H fun tc had H=>Dv.Fq (fst:=#[va.1]) (B:=[aC ga.1 265 [vS ta.cQ,eq ga.2.1],kU Value.string aY.O ga.2.1 ta.ao]) (F:=[aC b0_ 186 [eq v0_0.1],Kh Value.string bp.O v0_0.1 a0.bC a1 va]++F) Q T Q (cL 157) Q (Tr.kj (lh.c had (b0_:=ga.1) (v0_0:=ga.2)) (.cons (iV hac) (.cons bQ .nil))) (lK (L:=[aC ga.1 265 [vS ta.cQ,eq ga.2.1],kU Value.string aY.O ga.2.1 ta.ao,aC b0_ 186 [eq v0_0.1],Kh Value.string bp.O v0_0.1 a0.bC a1 va]) (F:=F) [0,1,2,3] Q Q Q)<|go 1<|dV Q T Q Q<|dV Q T Q Q<|al Q T uP nofun fun ba=>sy 0 ?_
 refine go 1<|WP.seq<|WP.block<|so<|ce H ?_ ?_ <;> intro H
 ·
  refine so<|wg (bp.shut (p:=va) (m:=ta) (ga.1,ga.2) hac (pm 5 [1,2,0,3,4])) fun _ _=>?_
  refine wg (fJ (aP.r haa) (pm 4 [3,0,1,2])) fun _ _=>?_
  cases H.out; exact et () 3 [1,2,0] 1
 refine WP.seq<|so<|ce H ?_ ?_ <;> intro H
 ·
  refine WP.skip<|ce H ?_ ?_ <;> intro H
  ·
   refine so<|wg (bp.shut (p:=va) (m:=ta) (ga.1,ga.2) hac (pm 5 [1,2,0,3,4])) fun _ _=>?_
   refine wg (fJ (aP.r haa) (pm 4 [3,0,1,2])) fun _ _=>?_
   cases H.out; exact et () 3 [1,2,0] 1
  refine WP.skip<|so<|wg (bp.shut (p:=va) (m:=ta) (ga.1,ga.2) hac (pm 5 [1,2,0,3,4])) fun _ _=>?_
  refine wg (fJ (aP.r haa) (pm 4 [3,0,1,2])) fun _ _=>?_
  cases H.out; exact et () 3 [1,2,0] 1
 refine wr 8 0<|gp 3 ?_
 cases cc:decide (a3=(⟨#[109,97,105,110]⟩:BA))
 ·
  have H:=H.cf cc
  refine go 5<|WP.cond Q nofun (fun _=>?_)
  refine so<|ce H ?_ ?_ <;> intro H
  ·
   refine WP.skip<|ce H ?_ ?_ <;> intro H
   ·
    refine so<|wg (bp.shut (p:=va) (m:=ta) (ga.1,ga.2) hac (pm 5 [1,2,0,3,4])) fun _ _=>?_
    refine wg (fJ (aP.r haa) (pm 4 [3,0,1,2])) fun _ _=>?_
    cases H.out; exact et () 3 [1,2,0] 1
   refine WP.skip<|so<|wg (bp.shut (p:=va) (m:=ta) (ga.1,ga.2) hac (pm 5 [1,2,0,3,4])) fun _ _=>?_
   refine wg (fJ (aP.r haa) (pm 4 [3,0,1,2])) fun _ _=>?_
   cases H.out; exact et () 3 [1,2,0] 1
  refine rg 5 0<|gl 5 [0]<|ce H ?_ ?_ <;> intro H
  ·
   refine so<|wg (bp.shut (p:=va) (m:=ta) (ga.1,ga.2) hac (pm 5 [1,2,0,3,4])) fun _ _=>?_
   refine wg (fJ (aP.r haa) (pm 4 [3,0,1,2])) fun _ _=>?_
   cases H.out; exact et () 3 [1,2,0] 1
  refine WP.skip<|so<|wg (bp.shut (p:=va) (m:=ta) (ga.1,ga.2) hac (pm 5 [1,2,0,3,4])) fun _ _=>?_
  refine wg (fJ (aP.r haa) (pm 4 [3,0,1,2])) fun _ _=>?_
  cases H.out; exact et () 3 [1,2,0] 1
 have H:=H.ct cc
 refine gl 5 [0]<|ce H ?_ ?_ <;> intro H
 ·
  refine WP.skip<|ce H ?_ ?_ <;> intro H
  ·
   refine so<|wg (bp.shut (p:=va) (m:=ta) (ga.1,ga.2) hac (pm 5 [1,2,0,3,4])) fun _ _=>?_
   refine wg (fJ (aP.r haa) (pm 4 [3,0,1,2])) fun _ _=>?_
   cases H.out; exact et () 3 [1,2,0] 1
  refine WP.skip<|so<|wg (bp.shut (p:=va) (m:=ta) (ga.1,ga.2) hac (pm 5 [1,2,0,3,4])) fun _ _=>?_
  refine wg (fJ (aP.r haa) (pm 4 [3,0,1,2])) fun _ _=>?_
  cases H.out; exact et () 3 [1,2,0] 1
 refine so<|ce H ?_ ?_ <;> intro H
 ·
  refine WP.skip<|ce H ?_ ?_ <;> intro H
  ·
   refine so<|wg (bp.shut (p:=va) (m:=ta) (ga.1,ga.2) hac (pm 5 [1,2,0,3,4])) fun _ _=>?_
   refine wg (fJ (aP.r haa) (pm 4 [3,0,1,2])) fun _ _=>?_
   cases H.out; exact et () 3 [1,2,0] 1
  refine WP.skip<|so<|wg (bp.shut (p:=va) (m:=ta) (ga.1,ga.2) hac (pm 5 [1,2,0,3,4])) fun _ _=>?_
  refine wg (fJ (aP.r haa) (pm 4 [3,0,1,2])) fun _ _=>?_
  cases H.out; exact et () 3 [1,2,0] 1
 refine rg 5 0<|gl 5 [0]<|ce H ?_ ?_ <;> intro H
 ·
  refine so<|wg (bp.shut (p:=va) (m:=ta) (ga.1,ga.2) hac (pm 5 [1,2,0,3,4])) fun _ _=>?_
  refine wg (fJ (aP.r haa) (pm 4 [3,0,1,2])) fun _ _=>?_
  cases H.out; exact et () 3 [1,2,0] 1
 refine WP.skip<|so<|wg (bp.shut (p:=va) (m:=ta) (ga.1,ga.2) hac (pm 5 [1,2,0,3,4])) fun _ _=>?_
 refine wg (fJ (aP.r haa) (pm 4 [3,0,1,2])) fun _ _=>?_
 cases H.out; exact et () 3 [1,2,0] 1
theorem b9.c (h:b9.f k a0 a1=some r):Pt prog 226 [sl ak.K a0,agg (ak.enc a1)] (vI r):=by
 refine pf func226 h fun R0 F H=>?_
 refine wr 2 1<|Dv.box Q T Q cA nofun fun ba=>go 1<|sr H id [] (fun _=>[]) (fun _=>[]) (fun pa H=>?_) (fun H=>?_)
 ·
  refine sp ?_
  cases H.out; exact ek 1
 refine wr 3 0<|go 1<|Dv.fj Q T Q eW<|go 1<|WP.block<|ws 1 [0] 0 ?_
 refine lq (fun j_ (pc:Int)=>b9.l0 k a0 a1 j_ pc) 0 H [0,3,7] (fun pc=>[(8,vI pc)]) (fun _=>[]) ?_
 rintro j_ xc H
 rcases j_ with _ | ja
 ·
  exact (aU.no H).elim
 try dsimp only at H
 rw [b9.l0] at H
 refine so<|WP.seq<|cf H ?_ ?_ <;> intro H
 ·
  refine WP.exit ?_
  have H:=H.out
  exact jn (xc,decide (xc<(a0.length:Int))) H
 refine WP.skip<|WP.seq<|WP.block<|so<|wd mX 6 0<|gl 3 [0]<|gr H fun ga H=>Dv.fR Q T Q Q eW gN iy ga.1 ga.2<|iv Q T Q uZ Q<|Dv.eqs [.int .i64 a1.aH,.string a1.ab,.string a1.aj,.string a1.bI,.string a1.ae,.bool a1.aq,.bool a1.kb,.int .i64 a1.bZ,.int .i64 a1.aX,.int .i64 a1.aV,.int .i64 a1.bf] [.int .i64 ((ak.K.at a0 xc).aH),.string ((ak.K.at a0 xc).ab),.string ((ak.K.at a0 xc).aj),.string ((ak.K.at a0 xc).bI),.string ((ak.K.at a0 xc).ae),.bool ((ak.K.at a0 xc).aq),.bool ((ak.K.at a0 xc).kb),.int .i64 ((ak.K.at a0 xc).bZ),.int .i64 ((ak.K.at a0 xc).aX),.int .i64 ((ak.K.at a0 xc).aV),.int .i64 ((ak.K.at a0 xc).bf)] Q T Q Q Q Q JN (fun _=>mI 2 dc (fun _=>DJ a1 (ak.K.at a0 xc)))<|.fin<|cf H ?_ ?_ <;> intro H
 ·
  exact WP.skip<|rg 2 0<|go 2<|bk ja (av (xc+1)) H
 refine sp ?_
 have H:=H.eR
 cases H.out; exact ek 1
theorem fh.c (h:fh.f k a0 a1=some r):Pt prog 158 [sl ak.K a0,agg (ak.enc a1)] (vB r):=by
 refine pf func158 h fun R0 F H=>?_
 refine wr 2 1<|Dv.box Q T Q cA nofun fun ba=>go 1<|wr 5 0<|gl 2 [0]<|el H fun ta haa H=>cl Q (cL 226) Q (b9.c haa)<|gq 2 ?_
 cases H.out; exact ek 1
theorem fb.c {a1 a2:Int} {p0_:OV} (h:fb.f a0 a1 a2=some r):Tr prog 159 [eq p0_.1,vI a1,vI a2] [own ak.K p0_.1 a0] (γ:=OV) (fun _=>True) (fun g=>eq g.1) (fun g=>[own ak.K g.1 r]):=by
  unfold fb.f at h
  obtain ⟨⟨h1,h2,h3⟩,h5⟩:=(aU.of h).an
  obtain rfl:=aU.out h5
  clear h h5
  obtain ⟨i,rfl⟩:=Int.eq_ofNat_of_zero_le h1
  obtain ⟨j,rfl⟩:=Int.eq_ofNat_of_zero_le (show (0:Int)≤a2 by omega)
  have hij:i≤j:=om
  have hj:j≤a0.length:=om
  obtain ⟨v,hv⟩:=p0_
  rw [Int.toNat_natCast,Int.toNat_natCast]
  refine Tr.body func159 (c:=_) Q ntmps159 (Nat.le_of_ble_eq_true Q) fun R0 F=>?_
  refine so<|wr 6 0<|go 4<|Dv.kl (Kd:=ak.K) (xs:=a0) (v:=v) Q T Q (aa 0 Q) eW<|Dv.sl3 (Kd:=ak.K) Q T Q (aa 0 Q) eW gN iy (eQ Q) (eQ Q) (eQ Q) hij hj<|.fin<|WP.seq<|so<|WP.cond Q (fun c0=>?_) (fun c0=>?_)
  · have e1:i=j:=by have:=beq_iff_eq.1 c0; omega
    subst e1
    rw [List.take_append_drop]
    refine sp ?_
    exact WP.BZ (fun _ _ h=>h) Q (⟨v,hv⟩:OV) T (.cons (aB Q) .nil) Q (vZ (L:=[own ak.K v a0]) (F:=F) [0] 0 Q Q Q)
  have hlt:i<j:=by
    have:¬ ((i:Int)=(j:Int)):=by simpa using c0
    omega
  have hzl:(a0.take i++a0.drop j++a0.drop (i+(a0.length-j))).length=a0.length:=by simp only [List.length_append,List.length_take,List.length_drop]; omega
  have hpl:(i+(a0.length-j))<(a0.take i++a0.drop j++a0.drop (i+(a0.length-j))).length:=by rw [hzl]; omega
  have hfin:((a0.take i++a0.drop j++a0.drop (i+(a0.length-j))).take (i+(a0.length-j))++List.replicate ((a0.take i++a0.drop j++a0.drop (i+(a0.length-j))).length-(i+(a0.length-j))) (⟨0,eE,eE,eE,eE,false,false,0,0,0,0⟩:ak)).take (i+(a0.length-j))=a0.take i++a0.drop j:=by
    have hl:(a0.take i++a0.drop j).length=(i+(a0.length-j)):=by rw [List.length_append,List.length_take,List.length_drop]; omega
    rw [List.take_append,List.take_take,Nat.min_self,List.take_left' hl]
    have:(i+(a0.length-j))-(a0.take i++a0.drop j).length=0:=om
    rw [this,List.take_zero,List.append_nil]
  refine WP.skip<|wr 3 0<|go 1<|Dv.kl (Kd:=ak.K) (xs:=a0) (v:=v) Q T Q (aa 0 Q) eW<|go 1<|wd mX 8 64<|go 2<|Dv.slpf (Kd:=ak.K) Q T Q (aa 0 Q) eW gN iy (eQ Q) (Nat.le_trans hij hj)<|go 2<|Dv.slt (Kd:=ak.K) (p:=j) Q T Q (aa 0 Q) eW gN iy (eQ Q) hj<|Dv.apt (Kd:=ak.K) (jj:=0) Q T Q Q Q eW eW gN iy ⟨hlt,hj⟩ (fun _=>fG kr)<|gq 1 ?_
  refine wr 6 32<|go 2<|Dv.lenp (Kd:=ak.K) (xs:=(a0.take i++a0.drop j++a0.drop (i+(a0.length-j)))) Q T Q (aa 0 Q) eW<|go 1<|Dv.slpt (Kd:=ak.K) (xs:=(a0.take i++a0.drop j++a0.drop (i+(a0.length-j)))) (p:=(i+(a0.length-j))) (q:=a0.length) Q T Q (aa 0 Q) eW gN iy (eQ Q) (eQ Q) om (Nat.le_of_eq hzl.symm)<|Dv.clrt (Kd:=ak.K) (jj:=0) (⟨0,eE,eE,eE,eE,false,false,0,0,0,0⟩:ak) Q T ((show opv _ _=some (eq (tlv _ v a0.length (i+(a0.length-j)))) from Q).trans (congrArg (fun z=>some (eq (tlv _ v z (i+(a0.length-j))))) hzl.symm)) eW vM Q Q (fun u hu=>List.all_eq_true.1 (show (Value.cells _).toList.all (fun u=>u.oneCell')=true by kernel_rfl) u hu) hpl Q nofun<|.fin<|sp ?_
  refine WP.gh (l':=fun _:Unit=>[own ak.K (pfv v (i+(a0.length-j))) (a0.take i++a0.drop j)]++F) (jw (ok:=fun _=>True) (fun R w h=>by obtain ⟨_,_,h2⟩:=G5 (m:=(i+(a0.length-j))) 0 rfl (by rw [List.length_append,List.length_take,List.length_replicate]; omega) R w h; rw [hfin] at h2; exact ⟨(),T,h2⟩)) (fun _ _=>?_)
  exact WP.BZ (fun _ _ h=>h) Q (⟨pfv v (i+(a0.length-j)),Dl hv⟩:OV) T (.cons (aB Q) .nil) Q (vZ (L:=[own ak.K (pfv v (i+(a0.length-j))) (a0.take i++a0.drop j)]) (F:=F) [0] 0 Q Q Q)
theorem j5.c {p0_:OV} (h:j5.f k a0 a1=some r):Tr prog 98 [eq p0_.1,agg (ak.enc a1)] [jB.O p0_ a0] (γ:=Unit) (fun _=>True) (fun g=>kZ [agg (ak.enc r.1),vB r.2.1]) (fun g=>[jB.O p0_ r.2.2]):=by
 refine tf func98 h fun R0 F H=>?_
 refine wr 3 3<|Dv.box Q T Q cA nofun fun ba=>al Q T u7 nofun fun bc=>go 1<|WP.seq<|WP.seq<|wg (jB.jf 2 Q) fun ga haa=>?_
 refine dg mX 6 0<|go 1<|Dv.bY haa Q T Q<|fp haa Q T Q o6<|gl 2 [0,3]<|el H fun ta hac H=>pN (B:=[own ak.K ga.2.1 a0.fl]) 4 [1,0,2,3] (cL 158) (Pt.xD _ (fh.c hac) (.cons (pI (aa 0 Q)) (.cons rn .nil)) lT) ?_
 refine .fin<|ce H ?_ ?_ <;> intro H
 ·
  refine wr 3 2<|Dv.kJ (qs:=[vI 0,vS eE,vS eE,vS eE,vS eE,vB false,vB false,vI 0,vI 0,vI 0,vI 0]) (css:=[]) Q T gN BC vM Q T Q Q<|sy 2 ?_
  refine go 1<|wg (jB.shut (p:=p0_) (m:=a0) (ga.1,ga.2) haa (pm 4 [0,1,2,3])) fun _ _=>?_
  cases H.out; exact rt i2 Q () 3 [1,2,0] 2 (.cons (au Q gN Q iy (aa 1 Q) Q) (.cons (aB Q) .nil))
 refine WP.skip<|wd mX 11 1152<|go 2<|Dv.bY haa Q T Q<|fp haa Q T Q o6<|gl 2 [0,3]<|Dv.lit ak.K ([a1]:List ak) (css:=[ak.enc a1]) Q T eW gN iy vM Q dc dc Q ⟨(aS (ak.K.one _)),T⟩ Q Q Q<|gr H fun gb H=>Dv.Fv (Kd:=ak.K) (jj:=1) (ys:=([a1]:List ak)) (fun va:OV=>[aC ga.1 247 [vI a0.eb,eq ga.2.1,vI a0.rr],own ak.K va.1 (a0.fl++([a1]:List ak)),aC bc 52 [vI 0,vS eE,vS eE,vS eE,vS eE,vB false,vB false,vI 0,vI 0,vI 0,vI 0],aC ba 52 (ak.enc a1)]++F) Q T Q Q Q bF eW (.inr ⟨_,eW⟩) nS Q dc gb Q pD (fun va=>?_)
 refine Dv.bY haa Q T Q<|fp haa Q T Q o6<|sx 0 Q T Q Q (cells_one bH) rV Q Q Q pB ?_
 refine .fin<|WP.seq<|wd mX 10 0<|go 1<|Dv.bY haa Q T Q<|fp haa Q T Q o6<|gl 1 [0]<|Dv.kl Q T Q (aa 1 Q) eW<|go 1<|Dv.bY haa Q T Q<|fp haa Q T Q JB<|gl 2 [0]<|ce H ?_ ?_ <;> intro H
 ·
  refine wr 3 2<|Dv.kJ (qs:=[vI 0,vS eE,vS eE,vS eE,vS eE,vB false,vB false,vI 0,vI 0,vI 0,vI 0]) (css:=[]) Q T gN BC vM Q T Q Q<|sy 2 ?_
  refine go 1<|wg (jB.shut (p:=p0_) (m:=(⟨a0.eb,a0.fl++([a1]:List ak),a0.rr⟩:jB)) (ga.1,va) haa (pm 4 [0,1,2,3])) fun _ _=>?_
  cases H.out; exact rt i2 Q () 3 [1,2,0] 2 (.cons (au Q gN Q iy (aa 1 Q) Q) (.cons (aB Q) .nil))
 refine WP.skip<|wr 8 192<|go 1<|Dv.bY haa Q T Q<|fp haa Q T Q o6<|gl 1 [0]<|gr H fun gi H=>?_
 have had:(0:Int).toNat<(a0.fl++([a1]:List ak)).length:=bq gi
 refine Dv.jQ Q T Q (aa 1 Q) Q eW gN iy gi.1 gi.2<|Dv.pT (j:=((0:Int).toNat)) (f:=0) Q T Q (aa 1 Q) had gN Q iy (Nat.le_of_ble_eq_true Q)<|al Q T u7 nofun fun bd=>sy 0 ?_
 refine .fin<|wr 9 288<|go 2<|Dv.bY haa Q T Q<|fp haa Q T Q o6<|gl 1 [1]<|el H fun tc hae H=>cx 5 [2,0,1,3,4] (cL 159) (fb.c hae (p0_:=va)) nofun fun gj _=>?_
 refine Dv.bY haa Q T Q<|fp haa Q T Q o6<|sx 2 Q T Q Q (cells_one bH) rV Q Q Q nofun ?_
 refine .fin<|wr 8 128<|go 1<|Dv.bY haa Q T Q<|fp haa Q T Q C3<|gl 2 [2]<|Dv.bY haa Q T Q<|fp haa Q T Q C3<|sy 2 ?_
 refine .fin<|wr 3 2<|gl 1 [1]<|sy 3 ?_
 refine go 1<|wg (jB.shut (p:=p0_) (m:=(⟨a0.eb,tc,av (a0.rr+1)⟩:jB)) (ga.1,gj) haa (pm 5 [2,0,1,3,4])) fun _ _=>?_
 cases H.out; exact rt i2 Q () 4 [1,2,3,0] 3 (.cons (au Q gN Q iy (aa 2 Q) Q) (.cons (aB Q) .nil))
theorem ia.c {v0_0:OV} {b0_:Nat} (h:ia.f a0 a1=some r):Tr prog 160 [dR b0_,vS a1] [aC b0_ 265 [vS a0.cQ,eq v0_0.1],kU Value.string aY.O v0_0.1 a0.ao] (γ:=Unit) (fun _=>True) (fun g=>kZ [agg (Pos.enc r.1),vB r.2]) (fun g=>[aC b0_ 265 [vS a0.cQ,eq v0_0.1],kU Value.string aY.O v0_0.1 a0.ao]):=by
 refine tf func160 h fun R0 F H=>?_
 refine wr 2 1<|al Q T uk nofun fun ba=>go 1<|WP.seq<|wr 4 0<|go 2<|el H fun ta haa H=>pN 3 [1,2,0] (cL 144) (eD.c haa (b0_:=b0_) (v0_0:=v0_0)) ?_
 refine go 1<|ce H ?_ ?_ <;> intro H
 ·
  refine wr 3 2<|Dv.kJ (qs:=[vI 0,vS eE]) (css:=[]) Q T wI F9 Jj Q T Q Q<|sy 0 ?_
  refine gq 1 ?_
  cases H.out; exact rt i2 Q () 3 [0,1,2] 1 (.cons (au Q wI Q Ak (aa 0 Q) Q) (.cons (aB Q) .nil))
 refine WP.skip<|wr 13 2048<|gl 5 [1]<|vg (mE 2 Q) fun za hac=>?_
 refine Dv.E8 jx Q T Q (aa 0 Q) Q xv (dU U9) Bw (fun _=>Q)<|gr H fun ga H=>vg (qU hac Q ga (pm 4 [1,0,2,3])) fun _ _=>?_
 refine Dv.qw aY.nn Q T Q (aa 0 Q)<|vg (aY.jf 0 Q) fun gb had=>?_
 refine fp had Q T Q zf<|gl 2 [0]<|Dv.kJ (qs:=[vI (((mget a0.ao a1).getD default).cK),vS a1]) (css:=[[vI (((mget a0.ao a1).getD default).cK)],[vS a1]]) Q T wI F9 Jj Q ⟨(cells_one (ah Q)),⟨(cells_one (ah Q)),T⟩⟩ Q Q<|sy 3 ?_
 refine go 1<|wg (aY.shut (p:=((mget (cX a0.ao za) a1).getD jx)) (m:=(mget a0.ao a1).getD default) gb had (pm 5 [0,1,2,3,4])) fun _ _=>?_
 refine wg (oX hac Q ga (pm 5 [0,1,2,3,4])) fun _ _=>?_
 refine wg (iH hac Q (pm 4 [1,0,2,3])) fun _ _=>?_
 cases H.out; exact rt i2 Q () 3 [1,2,0] 1 (.cons (au Q wI Q Ak (aa 1 Q) Q) (.cons (aB Q) .nil))
theorem fN.c {v0_0:OV} {b0_:Nat} (h:fN.f a0 a1 a2=some r):Tr prog 99 [dR b0_,vS a1,vS a2] [aC b0_ 186 [eq v0_0.1],kU Value.string bp.O v0_0.1 a0.bC] (γ:=Unit) (fun _=>True) (fun g=>kZ [agg (Pos.enc r.1),vB r.2]) (fun g=>[aC b0_ 186 [eq v0_0.1],kU Value.string bp.O v0_0.1 a0.bC]):=by
 refine tf func99 h fun R0 F H=>?_
 refine wr 2 1<|al Q T uk nofun fun ba=>go 1<|wr 9 132<|go 2<|el H fun ta haa H=>cx 3 [1,2,0] (cL 88) (aP.c haa (b0_:=b0_) (v0_0:=v0_0)) nofun fun va _=>?_
 refine go 1<|vg (bp.jf 2 Q) fun ga hac=>?_
 refine el H fun tc had H=>pN 5 [0,1,2,3,4] (cL 160) (Tr.kj (ia.c had (b0_:=ga.1) (v0_0:=ga.2)) (.cons (iV hac) (.cons bQ .nil))) ?_
 refine dV Q T Q Q<|dV Q T Q Q<|sy 4 ?_
 refine go 1<|wg (bp.shut (p:=va) (m:=ta) (ga.1,ga.2) hac (pm 5 [0,1,2,3,4])) fun _ _=>?_
 refine wg (fJ (aP.r haa) (pm 4 [2,0,1,3])) fun _ _=>?_
 cases H.out; exact rt i2 Q () 3 [2,1,0] 1 (.cons (au Q wI Q Ak (aa 2 Q) Q) (.cons (aB Q) .nil))
theorem cmp_isNaN_string.c (h:cmp_isNaN_string.f a0=some r):Pt prog 132 [vS a0] (vB r):=by
 refine pf func132 h fun R0 F H=>?_
 refine so<|sp ?_
 cases H.out; exact ek 0
theorem aD.c (h:aD.f a0 a1=some r):Pt prog 65 [vS a0,vS a1] (vI r):=by
 refine pf func65 h fun R0 F H=>?_
 refine so<|wr 3 0<|go 1<|el H fun ta haa H=>cl Q (cL 132) Q (cmp_isNaN_string.c haa)<|go 1<|wr 3 0<|go 1<|el H fun tc hac H=>cl Q (cL 132) Q (cmp_isNaN_string.c hac)<|go 1<|WP.seq<|so<|ce H ?_ ?_ <;> intro H
 ·
  refine WP.seq<|so<|ce H ?_ ?_ <;> intro H
  ·
   refine sp ?_
   cases H.out; exact ek 0
  refine WP.skip<|sp ?_
  cases H.out; exact ek 0
 refine WP.skip<|WP.seq<|so<|ce H ?_ ?_ <;> intro H
 ·
  refine sp ?_
  cases H.out; exact ek 0
 refine WP.skip<|WP.seq<|so<|ce H ?_ ?_ <;> intro H
 ·
  refine sp ?_
  cases H.out; exact ek 0
 refine WP.skip<|WP.seq<|so<|ce H ?_ ?_ <;> intro H
 ·
  refine sp ?_
  cases H.out; exact ek 0
 refine WP.skip<|sp ?_
 cases H.out; exact ek 0
theorem bG.c (h:bG.f k a0=some r):Pt prog 128 [sl (bz .i64) a0] (vI r):=by
 refine pf func128 h fun R0 F H=>?_
 refine so<|so<|sr H id [3] (fun _=>[]) (fun _=>[]) (fun pa H=>?_) (fun H=>?_)
 ·
  refine sp ?_
  cases H.out; exact ek 0
 refine wr 3 0<|go 1<|Dv.fj Q T Q rP<|go 1<|WP.block<|ws 0 [] 0 ?_
 refine lq (fun j_ (pc:Int)=>bG.l0 k a0 j_ pc) 0 H [3,6,7] (fun pc=>[(8,vI pc)]) (fun _=>[]) ?_
 rintro j_ xc H
 rcases j_ with _ | ja
 ·
  exact (aU.no H).elim
 try dsimp only at H
 rw [bG.l0] at H
 refine so<|WP.seq<|cf H ?_ ?_ <;> intro H
 ·
  refine WP.exit ?_
  have H:=H.out
  exact jn (xc,decide (xc<(a0.length:Int))) H
 refine WP.skip<|WP.seq<|WP.block<|wr 3 0<|gr H fun ga H=>Dv.fR Q T Q Q rP U3 c3 ga.1 ga.2<|kI Q T Q Dj Q<|go 1<|so<|cf H ?_ ?_ <;> intro H
 ·
  exact WP.skip<|rg 2 0<|go 2<|bk ja (av (xc+1)) H
 refine sp ?_
 have H:=H.eR
 cases H.out; exact ek 0
theorem cmp_isNaN_int.c (h:cmp_isNaN_int.f a0=some r):Pt prog 193 [vI a0] (vB r):=by
 refine pf func193 h fun R0 F H=>?_
 refine so<|sp ?_
 cases H.out; exact ek 0
theorem cD.c (h:cD.f a0 a1=some r):Pt prog 129 [vI a0,vI a1] (vI r):=by
 refine pf func129 h fun R0 F H=>?_
 refine so<|wr 3 0<|go 1<|el H fun ta haa H=>cl Q (cL 193) Q (cmp_isNaN_int.c haa)<|go 1<|wr 3 0<|go 1<|el H fun tc hac H=>cl Q (cL 193) Q (cmp_isNaN_int.c hac)<|go 1<|WP.seq<|so<|ce H ?_ ?_ <;> intro H
 ·
  refine WP.seq<|so<|ce H ?_ ?_ <;> intro H
  ·
   refine sp ?_
   cases H.out; exact ek 0
  refine WP.skip<|sp ?_
  cases H.out; exact ek 0
 refine WP.skip<|WP.seq<|so<|ce H ?_ ?_ <;> intro H
 ·
  refine sp ?_
  cases H.out; exact ek 0
 refine WP.skip<|WP.seq<|so<|ce H ?_ ?_ <;> intro H
 ·
  refine sp ?_
  cases H.out; exact ek 0
 refine WP.skip<|WP.seq<|so<|ce H ?_ ?_ <;> intro H
 ·
  refine sp ?_
  cases H.out; exact ek 0
 refine WP.skip<|sp ?_
 cases H.out; exact ek 0
theorem iS.c (h:iS.f k a0 a1=some r):Pt prog 161 [agg (Pos.enc a0),agg (Pos.enc a1)] (vI r):=by
 refine pf func161 h fun R0 F H=>?_
 refine wr 3 3<|Dv.box Q T Q cA nofun fun ba=>Dv.box Q T Q cA nofun fun bc=>go 1<|wd mX 13 0<|gl 4 [1,0]<|el H fun ta haa H=>cl Q (cL 129) Q (cD.c haa)<|gl 4 [1,0]<|el H fun tc hac H=>cl Q (cL 65) Q (aD.c hac)<|Dv.lit (bz .i64) ([ta,tc]:List Int) (css:=[[vI ta],[vI tc]]) Q T rP U3 c3 z3 Q dc dc Q ⟨(cells_one (ah Q)),⟨(cells_one (ah Q)),T⟩⟩ Q Q Q<|el H fun te had H=>cl Q (cL 128) Q (bG.c had)<|gq 1 ?_
 cases H.out; exact ek 2
theorem gC.c {p0_:OV} (h:gC.f k a0 a1 a2=some r):Tr prog 100 [eq p0_.1,agg (bB.enc a1),agg (Pos.enc a2)] [j6.O p0_ a0] (γ:=Unit) (fun _=>True) (fun g=>vB r.1) (fun g=>[j6.O p0_ r.2]):=by
 refine tf func100 h fun R0 F H=>?_
 refine wr 3 3<|Dv.box Q T Q cA nofun fun ba=>Dv.box Q T Q cA nofun fun bc=>go 1<|WP.seq<|wg (j6.jf 2 Q) fun ga haa=>?_
 refine dg mX 12 1536<|go 1<|Dv.bY haa Q T Q<|fp haa Q T Q uG<|gl 2 [0,3]<|Dv.mlkq (⟨0,eE⟩:Pos) Q T Q (aa 1 Q) Q (bB.kq a1) GH C9 Jj (fun _=>⟨_,Q,Cs.eqz Q⟩)<|go 1<|dV Q T Q Q<|dV Q T Q Q<|al Q T uk pD fun bd=>sx 0 Q T Q Q cA Gc Q Q Q pD ?_
 refine go 1<|WP.seq<|wr 7 0<|gp 2 ?_
 cases cc:(mget a0.iU a1).isSome
 ·
  have H:=H.cf cc
  refine go 5<|WP.cond Q nofun (fun _=>?_)
  refine WP.skip<|wd mX 7 64<|go 1<|Dv.bY haa Q T Q<|fp haa Q T Q uG<|gl 3 [1,4,3]<|Dv.mupq (jj:=2) a2 Q T Q Q Q (bB.kq a1) Q GH C9 (fun _=>fG kr)<|.fin<|so<|wg (j6.shut (p:=p0_) (m:=(⟨mput a0.iU a1 a2⟩:j6)) (ga.1,ga.2) haa (pm 5 [1,2,0,3,4])) fun _ _=>?_
  cases H.out; exact et () 4 [1,2,3,0] 3
 have H:=H.ct cc
 refine gl 2 [0,3]<|el H fun ta hac H=>Dv.call Q (gg Q) (cL 161) Q (iS.c hac)<|go 2<|ce H ?_ ?_ <;> intro H
 ·
  refine so<|wg (j6.shut (p:=p0_) (m:=a0) (ga.1,ga.2) haa (pm 5 [1,2,0,3,4])) fun _ _=>?_
  cases H.out; exact et () 4 [1,2,3,0] 3
 refine WP.skip<|wd mX 7 64<|go 1<|Dv.bY haa Q T Q<|fp haa Q T Q uG<|gl 3 [1,4,3]<|Dv.mupq (jj:=2) a2 Q T Q Q Q (bB.kq a1) Q GH C9 (fun _=>fG kr)<|.fin<|so<|wg (j6.shut (p:=p0_) (m:=(⟨mput a0.iU a1 a2⟩:j6)) (ga.1,ga.2) haa (pm 5 [1,2,0,3,4])) fun _ _=>?_
 cases H.out; exact et () 4 [1,2,3,0] 3
theorem pX.c (h:pX.f a0=some r):Pt prog 101 [agg (ak.enc a0)] (agg (bB.enc r)):=by
 refine pf func101 h fun R0 F H=>?_
 refine wr 2 3<|Dv.box Q T Q cA nofun fun ba=>al Q T zc89 nofun fun bc=>.fin<|wr 10 512<|gl 8 [1,1,1,1]<|Dv.kJ (qs:=[vS a0.ab,vS a0.aj,vS a0.ae,vB a0.aq]) (css:=[[vS a0.ab],[vS a0.aj],[vS a0.ae],[vB a0.aq]]) Q T JF Ix z89 Q ⟨(cells_one (ah Q)),⟨(cells_one (ah Q)),⟨(cells_one (ah Q)),⟨(cells_one (ah Q)),T⟩⟩⟩⟩ Q Q<|sy 0 ?_
 refine .fin ?_
 cases H.out; exact r2 i2 Q (.cons (au Q JF Q LV (aa 0 Q) Q) .nil)
theorem iD.c {p0_ p1_:OV} (h:iD.f k a0 a1 a2=some r):Tr prog 39 [eq p0_.1,eq p1_.1,agg (ak.enc a2)] [jA.O p0_ a0,aJ.O p1_ a1] (γ:=Unit) (fun _=>True) (fun g=>kZ [vB r.1,vI r.2.1]) (fun g=>[jA.O p0_ r.2.2,aJ.O p1_ a1]):=by
 refine tf func39 h fun R0 F H=>?_
 refine wr 3 1<|Dv.box Q T Q cA nofun fun ba=>go 2<|WP.seq<|wr 8 0<|kX 4 [0] ?_
 cases cc:(a2.aH != 1)
 rotate_left
 ·
  have H:=H.ct cc
  refine go 4<|WP.cond Q (fun _=>?_) nofun
  refine sp ?_
  cases H.out; exact et () 3 [0,1,2] 1
 have H:=H.cf cc
 refine gl 1 [0]<|el H fun ta haa H=>Dv.call Q (gg Q) (cL 96) Q (eN.c haa)<|go 2<|ce H ?_ ?_ <;> intro H
 ·
  refine sp ?_
  cases H.out; exact et () 3 [0,1,2] 1
 refine WP.skip<|WP.seq<|wr 9 0<|gl 7 [0,0,0]<|vg (aJ.jf 2 Q) fun ga hac=>?_
 refine el H fun tc had H=>pN 4 [0,1,2,3] (cL 97) (Tr.kj (jk.c had (b0_:=ga.1) (v0_0:=ga.2)) (.cons (iV hac) (.cons bQ (.cons bQ (.cons bQ .nil))))) ?_
 refine go 1<|so<|WP.block<|so<|ce H ?_ ?_ <;> intro H
 ·
  refine WP.seq<|wg (jA.jf 3 Q) fun gb hae=>?_
  refine dg mX 6 32<|go 1<|Dv.bY hae Q T Q<|fp hae Q T Q Il<|gl 2 [0,5]<|el H fun te haf H=>cx 6 [2,0,1,3,4,5] (cL 98) (j5.c haf (p0_:=gb.2.2)) pC fun _ _=>?_
  refine .fin<|so<|wg (aJ.shut (p:=p1_) (m:=a1) (ga.1,ga.2) hac (pm 6 [3,4,0,1,2,5])) fun _ _=>?_
  refine wg (jA.shut (p:=p0_) (m:=(⟨a0.pW,te.2.2⟩:jA)) (gb.1,gb.2.1,gb.2.2) hae (pm 5 [2,3,1,0,4])) fun _ _=>?_
  cases H.out; exact et () 3 [2,0,1] 1
 refine so<|cf H ?_ ?_ <;> intro H
 ·
  refine so<|wg (aJ.shut (p:=p1_) (m:=a1) (ga.1,ga.2) hac (pm 4 [0,1,2,3])) fun _ _=>?_
  cases H.out; exact et () 3 [1,2,0] 1
 refine WP.skip<|wr 12 1536<|gl 5 [2,2]<|el H fun tg hag H=>pN 4 [0,1,2,3] (cL 99) (Tr.kj (fN.c hag (b0_:=ga.1) (v0_0:=ga.2)) (.cons (iV hac) (.cons bQ (.cons bQ .nil)))) ?_
 refine go 1<|dV Q T Q Q<|dV Q T Q Q<|al Q T uk nofun fun bc=>sy 0 ?_
 refine go 1<|WP.seq<|wg (jA.jf 4 Q) fun gi hah=>?_
 refine dg mX 10 128<|go 1<|Dv.bY hah Q T Q<|fp hah Q T Q DH<|gl 2 [0,6]<|el H fun tj hai H=>cl Q (cL 101) Q (pX.c hai)<|gl 1 [3]<|el H fun tm haj H=>cx 7 [1,0,2,3,4,5,6] (cL 100) (gC.c haj (p0_:=gi.2.1)) pC fun _ _=>?_
 refine go 2<|wg (aJ.shut (p:=p1_) (m:=a1) (ga.1,ga.2) hac (pm 7 [4,5,0,1,2,3,6])) fun _ _=>?_
 refine wg (jA.shut (p:=p0_) (m:=(⟨tm.2,a0.qK⟩:jA)) (gi.1,gi.2.1,gi.2.2) hah (pm 6 [2,1,3,0,4,5])) fun _ _=>?_
 cases H.out; exact et () 4 [2,3,0,1] 2
theorem strings_Join.c {xs:List BA} {sep r:BA} (h:strings_Join.f xs sep=some r):Tr prog 102 [sl aw xs,vS sep] [lax] (γ:=Unit) (fun _=>True) (fun _=>vS r) (fun _=>[lax]):=Tr.D3 fun R F w us hu hs=>by
  obtain ⟨⟨h1,h2⟩,H⟩:=aU.an (aU.of h)
  obtain rfl:=aU.out H
  cases hu with
  | cons ha hu=>cases hu with
    | cons hb hu=>
      cases hu
      simp only [ei] at hb
      subst hb
      rcases B7 ha hs with ⟨a,c,rfl,rfl⟩ | ⟨b,off,c,rfl,hl,hlt,hc⟩
      · exact ⟨_,Q,(Tryz.strings_Join_none a c sep w).mono fun e w' ⟨he,hw⟩=>⟨he,hw ▸ Go.RowKit.Below.refl _ _⟩⟩
      · exact ⟨_,Q,Tryz.strings_Join b off c xs sep w hc hlt h1 hl h2⟩
theorem iK.c (h:iK.f a0=some r):Tr prog 41 [agg (bB.enc a0)] [lax] (γ:=Unit) (fun _=>True) (fun g=>vS r) (fun g=>[lax]):=by
 refine tf func41 h fun R0 F H=>?_
 refine wr 2 1<|Dv.box Q T Q cA nofun fun ba=>go 1<|so<|WP.seq<|sN [0]<|cf H ?_ ?_ <;> intro H
 ·
  refine WP.skip<|wr 10 0<|gl 7 [0,0,0]<|Dv.lit aw ([(⟨#[109]⟩:BA),a0.ab,a0.aj,a0.ae,(⟨#[48]⟩:BA)]:List BA) (css:=[[vS (⟨#[109]⟩:BA)],[vS a0.ab],[vS a0.aj],[vS a0.ae],[vS (⟨#[48]⟩:BA)]]) Q T dj U9 c9 z9 Q dc dc Q ⟨(cells_one (ah Q)),⟨(cells_one (ah Q)),⟨(cells_one (ah Q)),⟨(cells_one (ah Q)),⟨(cells_one (ah Q)),T⟩⟩⟩⟩⟩ Q Q Q<|el H fun ta haa H=>pN 2 [1,0] (cL 102) (strings_Join.c haa) ?_
  refine gq 1 ?_
  cases H.out; exact et () 2 [0,1] 1
 refine rg 1 0<|go 1<|wr 10 0<|gl 7 [0,0,0]<|Dv.lit aw ([(⟨#[109]⟩:BA),a0.ab,a0.aj,a0.ae,(⟨#[49]⟩:BA)]:List BA) (css:=[[vS (⟨#[109]⟩:BA)],[vS a0.ab],[vS a0.aj],[vS a0.ae],[vS (⟨#[49]⟩:BA)]]) Q T dj U9 c9 z9 Q dc dc Q ⟨(cells_one (ah Q)),⟨(cells_one (ah Q)),⟨(cells_one (ah Q)),⟨(cells_one (ah Q)),⟨(cells_one (ah Q)),T⟩⟩⟩⟩⟩ Q Q Q<|el H fun tc hac H=>pN 2 [1,0] (cL 102) (strings_Join.c hac) ?_
 refine gq 1 ?_
 cases H.out; exact et () 2 [0,1] 1
theorem mD.c (h:mD.f k a0=some r):Pt prog 103 [agg (ak.enc a0)] (vB r):=by
 refine pf func103 h fun R0 F H=>?_
 refine wr 2 1<|Dv.box Q T Q cA nofun fun ba=>go 1<|wr 3 0<|gl 1 [0]<|el H fun ta haa H=>cl Q (cL 92) Q (gI.c haa)<|go 1<|wr 7 0<|gp 2 ?_
 cases cc:ta
 ·
  have H:=H.cf cc
  refine gq 5 ?_
  cases H.out; exact ek 1
 have H:=H.ct cc
 refine Es 5 [0] ?_
 cases H.out; exact ek 1
theorem cV.c:∀ (k:Nat) {a0:Int} {r:(List Int)} (h:cV.f k a0=some r),Tr prog 229 [vI a0] [] (γ:=OV) (fun _=>True) (fun g=>eq g.1) (fun g=>[own (bz .u8) g.1 r])
  | 0,_,_,h=>by cases h
  | k+1,a0,r,h=>by
    rw [cV.f] at h
    refine tb func229 ntmps229 h fun R0 F H=>?_
    refine so<|sq H id [] (fun pa=>[(0,vI pa)]) (fun _=>[]) (fun pa H=>?_) (fun H=>?_)
    rotate_left
    ·
     refine so<|cf H ?_ ?_ <;> intro H
     ·
      refine WP.skip ?_
      have H:=H.out
      exact jn a0 H
     refine rg 1 0<|gq 1 ?_
     have H:=H.out
     exact jn 0 H
    refine WP.seq<|so<|ce H ?_ ?_ <;> intro H
    ·
     refine wr 4 4<|go 1<|Dv.JA Q T Q U3 U5<|Dv.lito (bz .u8) ([IntKind.u8.wrap (pa)]:List Int) (css:=[[eq (.int .u8 (IntKind.u8.wrap (pa)))]]) Q T jL U5 c5 z5 Q dc dc Q ⟨(cells_one (ah Q)),T⟩ Q Q Q nofun (fun va=>?_)
     refine gq 1 ?_
     cases H.out; exact et va 1 [0] 0
    refine WP.skip<|wr 6 16<|go 1<|ot Q Q Q (rh dc)<|go 1<|Dv.JA Q T Q U3 U5<|Dv.lito (bz .u8) ([IntKind.u8.wrap (av (128+(pa.tmod 128)))]:List Int) (css:=[[eq (.int .u8 (IntKind.u8.wrap (av (128+(pa.tmod 128)))))]]) Q T jL U5 c5 z5 Q dc dc Q ⟨(cells_one (ah Q)),T⟩ Q Q Q nofun (fun vb=>?_)
    refine go 1<|wr 6 24<|go 2<|ot Q Q Q (oa dc)<|el H fun ta haa H=>cx 1 [0] (cL 229) (cV.c k haa) nofun fun ga _=>?_
    refine gr H fun gb H=>ap (bz .u8) 1 ta (np (aa 0 Q)) jL (.inr ⟨_,jL⟩) si gb nofun fun vd=>?_
    refine gq 1 ?_
    cases H.out; exact et vd 2 [0,1] 1
theorem jR.c (h:jR.f k a0=some r):Tr prog 230 [vS a0] [] (γ:=OV) (fun _=>True) (fun g=>eq g.1) (fun g=>[own (bz .u8) g.1 r]):=by
 refine tf func230 h fun R0 F H=>?_
 refine so<|wr 6 20<|go 1<|Dv.lens Q T Q U9<|el H fun ta haa H=>cx 0 [] (cL 229) (cV.c _ haa) nofun fun ga _=>?_
 refine go 1<|gr H fun gb H=>ap (bz .u8) 0 (nJ a0) DI jL (.inl U9) si gb nofun fun va=>?_
 refine gq 1 ?_
 cases H.out; exact et va 1 [0] 0
theorem p8.c (h:p8.f a0=some r):Pt prog 231 [vB a0] (sl (bz .u8) r):=by
 refine pf func231 h fun R0 F H=>?_
 refine so<|WP.seq<|so<|ce H ?_ ?_ <;> intro H
 ·
  refine wr 2 0<|Dv.lit (bz .u8) ([1]:List Int) (css:=[[eq (.int .u8 1)]]) Q T jL U5 c5 z5 Q dc dc Q ⟨(cells_one (ah Q)),T⟩ Q Q Q<|gq 1 ?_
  cases H.out; exact ek 0
 refine WP.skip<|wr 2 0<|Dv.lit (bz .u8) ([0]:List Int) (css:=[[eq (.int .u8 0)]]) Q T jL U5 c5 z5 Q dc dc Q ⟨(cells_one (ah Q)),T⟩ Q Q Q<|gq 1 ?_
 cases H.out; exact ek 0
theorem lD.c (h:lD.f k a0=some r):Tr prog 165 [agg (ak.enc a0)] [] (γ:=OV) (fun _=>True) (fun g=>eq g.1) (fun g=>[own (bz .u8) g.1 r]):=by
 refine tf func165 h fun R0 F H=>?_
 refine wr 2 1<|Dv.box Q T Q cA nofun fun ba=>go 1<|wr 4 4<|gl 2 [0]<|el H fun ta haa H=>cx 1 [0] (cL 229) (cV.c _ haa) nofun fun ga _=>?_
 refine go 1<|wr 6 24<|gl 3 [1]<|el H fun tc hac H=>cx 2 [0,1] (cL 230) (jR.c hac) nofun fun gb _=>?_
 refine gr H fun gi H=>ap (bz .u8) 1 tc (np (aa 0 Q)) jL (.inr ⟨_,jL⟩) si gi nofun fun va=>?_
 refine go 1<|wr 6 24<|gl 3 [2]<|el H fun te had H=>cx 3 [0,1,2] (cL 230) (jR.c had) nofun fun gj _=>?_
 refine gr H fun gk H=>ap (bz .u8) 2 te (np (aa 0 Q)) jL (.inr ⟨_,jL⟩) si gk nofun fun vb=>?_
 refine go 1<|wr 6 24<|gl 3 [3]<|el H fun tg hae H=>cx 4 [0,1,2,3] (cL 230) (jR.c hae) nofun fun gm _=>?_
 refine gr H fun gn H=>ap (bz .u8) 3 tg (np (aa 0 Q)) jL (.inr ⟨_,jL⟩) si gn nofun fun vd=>?_
 refine go 1<|wr 6 24<|gl 3 [4]<|el H fun tj haf H=>cx 5 [0,1,2,3,4] (cL 230) (jR.c haf) nofun fun gu _=>?_
 refine gr H fun gv H=>ap (bz .u8) 4 tj (np (aa 0 Q)) jL (.inr ⟨_,jL⟩) si gv nofun fun ve=>?_
 refine go 1<|wr 6 16<|gl 3 [5]<|el H fun tm hag H=>cl Q (cL 231) Q (p8.c hag)<|gr H fun gw H=>ap (bz .u8) 4 tm bF jL (.inr ⟨_,jL⟩) si gw nofun fun vh=>?_
 refine go 1<|wr 6 24<|gl 3 [5]<|el H fun tn hah H=>cx 6 [0,1,2,3,4,5] (cL 229) (cV.c _ hah) nofun fun gy _=>?_
 refine gr H fun gz H=>ap (bz .u8) 5 tn (np (aa 0 Q)) jL (.inr ⟨_,jL⟩) si gz nofun fun vi=>?_
 refine go 1<|wr 6 24<|gl 3 [6]<|el H fun tp hai H=>cx 7 [0,1,2,3,4,5,6] (cL 229) (cV.c _ hai) nofun fun gaa _=>?_
 refine gr H fun gab H=>ap (bz .u8) 6 tp (np (aa 0 Q)) jL (.inr ⟨_,jL⟩) si gab nofun fun vj=>?_
 refine go 1<|wr 6 24<|gl 3 [7]<|el H fun tq haj H=>cx 8 [0,1,2,3,4,5,6,7] (cL 229) (cV.c _ haj) nofun fun gac _=>?_
 refine gr H fun gad H=>ap (bz .u8) 7 tq (np (aa 0 Q)) jL (.inr ⟨_,jL⟩) si gad nofun fun vk=>?_
 refine go 1<|wr 6 24<|gl 3 [8]<|el H fun tu hak H=>cx 9 [0,1,2,3,4,5,6,7,8] (cL 229) (cV.c _ hak) nofun fun gae _=>?_
 refine gr H fun gaf H=>ap (bz .u8) 8 tu (np (aa 0 Q)) jL (.inr ⟨_,jL⟩) si gaf nofun fun vl=>?_
 refine gq 1 ?_
 cases H.out; exact et vl 10 [0,1,2,3,4,5,6,7,9,8] 9
theorem jy.c (h:jy.f k a0 a1=some r):Pt prog 104 [agg (ak.enc a0),agg (ak.enc a1)] (vI r):=by
 refine pf func104 h fun R0 F H=>?_
 refine wr 3 3<|Dv.box Q T Q cA nofun fun ba=>Dv.box Q T Q cA nofun fun bc=>go 1<|WP.seq<|sN [1,0]<|ce H ?_ ?_ <;> intro H
 ·
  refine sp ?_
  cases H.out; exact ek 2
 refine WP.skip<|WP.seq<|sN [1,0]<|ce H ?_ ?_ <;> intro H
 ·
  refine sp ?_
  cases H.out; exact ek 2
 refine WP.skip<|wr 4 2<|gl 1 [1]<|el H fun ta haa H=>cx 2 [0,1] (cL 165) (lD.c haa) nofun fun ga _=>?_
 refine Dv.gh (ou (E':=[(0,agg (ak.enc a0)),(1,agg (ak.enc a1)),(2,dR ba),(3,dR bc),(4,vI 0),(11,vB (decide (a0.bf<a1.bf))),(16,vB (decide (a1.bf<a0.bf))),(18,sl (bz .u8) ta)]) (l':=[aC bc 52 (ak.enc a1),aC ba 52 (ak.enc a0)]++F) 0 Q (ar Q az (ar Q az (ar Q az (ar Q az (ar Q az (ar Q az (ar Q az (ar Q kR jM)))))))) (fW (.cons bU (.cons bU .nil)) fun _=>bU)) (fun _ _=>?_)
 refine Dv.Lo Q T Q jL U5 U9<|go 1<|wr 4 2<|gl 1 [0]<|el H fun tc hac H=>cx 2 [0,1] (cL 165) (lD.c hac) nofun fun gb _=>?_
 refine Dv.gh (ou (E':=[(0,agg (ak.enc a0)),(1,agg (ak.enc a1)),(2,dR ba),(3,dR bc),(4,vI 0),(5,vS (gK ta)),(11,vB (decide (a0.bf<a1.bf))),(16,vB (decide (a1.bf<a0.bf))),(21,sl (bz .u8) tc)]) (l':=[aC bc 52 (ak.enc a1),aC ba 52 (ak.enc a0)]++F) 0 Q (ar Q az (ar Q az (ar Q az (ar Q az (ar Q az (ar Q az (ar Q az (ar Q az (ar Q kR jM))))))))) (fW (.cons bU (.cons bU .nil)) fun _=>bU)) (fun _ _=>?_)
 refine Dv.Lo Q T Q jL U5 U9<|go 1<|WP.seq<|so<|ce H ?_ ?_ <;> intro H
 ·
  refine sp ?_
  cases H.out; exact ek 2
 refine WP.skip<|WP.seq<|so<|ce H ?_ ?_ <;> intro H
 ·
  refine sp ?_
  cases H.out; exact ek 2
 refine WP.skip<|sp ?_
 cases H.out; exact ek 2
theorem cU.c (h:cU.f k a0 a1=some r):Pt prog 42 [agg (kB.enc a0),agg (ak.enc a1)] (kZ [agg (kB.enc r.1),vB r.2.1,vI r.2.2]):=by
 refine pf func42 h fun R0 F H=>?_
 refine wr 5 7<|Dv.box Q T Q cA nofun fun ba=>Dv.box Q T Q cA nofun fun bc=>al Q T Lx nofun fun bd=>go 2<|wr 3 0<|gl 1 [1]<|el H fun ta haa H=>cl Q (cL 103) Q (mD.c haa)<|go 1<|WP.seq<|wr 7 0<|kX 4 [1] ?_
 cases cc:(a1.aH != 2)
 rotate_left
 ·
  have H:=H.ct cc
  refine go 3<|WP.cond Q (fun _=>?_) nofun
  refine wr 4 2<|gl 1 [2]<|sy 0 ?_
  refine gq 2 ?_
  cases H.out; exact r3 i2 Q (.cons (au Q U37 Q c37 (aa 0 Q) Q) (.cons (aB Q) (.cons (aB Q) .nil)))
 have H:=H.cf cc
 refine go 3<|ce H ?_ ?_ <;> intro H
 ·
  refine wr 4 2<|gl 1 [2]<|sy 0 ?_
  refine gq 2 ?_
  cases H.out; exact r3 i2 Q (.cons (au Q U37 Q c37 (aa 0 Q) Q) (.cons (aB Q) (.cons (aB Q) .nil)))
 refine WP.skip<|wr 1 1<|al Q T Lx nofun fun be=>.fin<|so<|WP.sT H (fun qh:(Bool×Int×Bool×(List ak)×(List Bool))×OV×OV=>qh.1) (fun qh=>[(3,dR bc),(4,dR bd),(8,dR be),(9,vB qh.1.1)]) (fun qh=>[aC be 37 [eq qh.2.1.1,eq qh.2.2.1],aC bd 37 [dH,dH],aC bc 52 (ak.enc a1),aC ba 37 (kB.enc a0),own ak.K qh.2.1.1 qh.1.2.2.2.1,own bJ qh.2.2.1 qh.1.2.2.2.2]++F) (fun qh H=>?_) (fun H=>?_)
 ·
  obtain ⟨pa,va,vb⟩:=qh
  refine WP.seq<|so<|cf H ?_ ?_ <;> intro H
  ·
   refine WP.skip<|wr 4 2<|gl 1 [0]<|sy 1 ?_
   refine go 2<|fz 4 [4,5,6] [1,1] ?_
   refine fz 4 [4,5,6] [1,1] ?_
   cases H.out; exact r4 i2 Q (.cons (au Q U37 Q c37 (aa 1 Q) Q) (.cons (aB Q) (.cons (aB Q) .nil)))
  refine wr 7 80<|gl 3 [0,2]<|Dv.lit ak.K ([a1]:List ak) (css:=[ak.enc a1]) Q T eW gN iy vM Q dc dc Q ⟨(aS (ak.K.one _)),T⟩ Q Q Q<|gr H fun ga H=>ap ak.K 4 ([a1]:List ak) bF eW (.inr ⟨_,eW⟩) nS ga nofun fun vd=>?_
  refine go 1<|sx 0 Q T Q Q (cells_one bH) rV Q Q Q nofun ?_
  refine .fin<|rg 6 40<|gl 2 [0]<|Dv.lit bJ ([false]:List Bool) (css:=[[vB false]]) Q T rl U4 c4 z4 Q dc dc Q ⟨(cells_one (ah Q)),T⟩ Q Q Q<|gr H fun gb H=>ap bJ 5 ([false]:List Bool) bF rl (.inr ⟨_,rl⟩) AH gb nofun fun ve=>?_
  refine go 1<|sx 0 Q T Q Q (cells_one bH) BJ Q Q Q nofun ?_
  refine .fin<|wr 4 2<|gl 1 [0]<|sy 1 ?_
  refine go 2<|fz 4 [4,5,6] [1,1] ?_
  refine fz 4 [4,5,6] [1,1] ?_
  cases H.out; exact r4 i2 Q (.cons (au Q U37 Q c37 (aa 1 Q) Q) (.cons (aB Q) (.cons (aB Q) .nil)))
 refine so<|WP.block<|wg (dw ak.K none) fun _ _=>?_
 refine wg (dw bJ none) fun _ _=>?_
 refine ws 6 [2,3,4,5,1,0] 0 ?_
 refine lq (fun j_ (pc:Bool×Int×(List ak)×(List Bool)×OV×OV)=>cU.l0 k a0 a1 j_ pc.1 pc.2.1 pc.2.2.1 pc.2.2.2.1) (false,0,([]:List ak),([]:List Bool),jS,DE) H [2,3,4,8] (fun pc=>[(9,vB pc.1),(10,vI pc.2.1)]) (fun pc=>[(0,aC be 37 [eq pc.2.2.2.2.1.1,eq pc.2.2.2.2.2.1]),(4,own ak.K pc.2.2.2.2.1.1 pc.2.2.1),(5,own bJ pc.2.2.2.2.2.1 pc.2.2.2.1)]) ?_
 rintro j_ ⟨xc,xd,xe,xf,vh,vi⟩ H
 rcases j_ with _ | ja
 ·
  exact (aU.no H).elim
 try dsimp only at H
 rw [cU.l0] at H
 refine WP.seq<|wr 5 0<|gl 3 [3]<|Dv.fj Q T Q eW<|go 1<|cf H ?_ ?_ <;> intro H
 ·
  refine WP.exit ?_
  have H:=H.out
  exact jn ((xc,xd,decide (xd<(a0.fL.length:Int)),xe,xf),vh,vi) H
 refine WP.skip<|WP.seq<|WP.block<|wr 7 96<|gl 3 [3]<|gr H fun gi H=>Dv.fR Q T Q Q eW gN iy gi.1 gi.2<|iv Q T Q uZ Q<|al Q T u7 nofun fun bg=>sy 0 ?_
 refine .fin<|WP.seq<|wr 12 0<|kX 6 [0,3] ?_
 cases cg:decide (((ak.K.at a0.fL xd).ab)=a1.ab)
 ·
  have H:=H.cf cg
  refine go 6<|WP.cond Q nofun (fun _=>?_)
  refine WP.skip<|WP.jh H (fun qi:(Bool×Bool×(List ak)×(List Bool))×OV×OV=>qi.1) (fun qi=>[(2,dR ba),(3,dR bc),(4,dR bd),(8,dR be),(9,vB qi.1.1),(10,vI xd),(11,dR bg)]) (fun qi=>[aC bg 52 (ak.enc (ak.K.at a0.fL xd)),aC be 37 [eq qi.2.1.1,eq qi.2.2.1],aC bd 37 [dH,dH],aC bc 52 (ak.enc a1),aC ba 37 (kB.enc a0),own ak.K qi.2.1.1 qi.1.2.2.1,own bJ qi.2.2.1 qi.1.2.2.2]++F) (fun qi H=>?_) (fun H=>?_)
  ·
   obtain ⟨pe,vj,vk⟩:=qi
   refine wr 7 80<|gl 3 [1,0]<|Dv.lit ak.K ([ak.K.at a0.fL xd]:List ak) (css:=[ak.enc (ak.K.at a0.fL xd)]) Q T eW gN iy vM Q dc dc Q ⟨(aS (ak.K.one _)),T⟩ Q Q Q<|gr H fun gj H=>ap ak.K 5 ([ak.K.at a0.fL xd]:List ak) bF eW (.inr ⟨_,eW⟩) nS gj nofun fun vl=>?_
   refine go 1<|sx 1 Q T Q Q (cells_one bH) rV Q Q Q nofun ?_
   refine .fin<|dg mX 11 1280<|gl 5 [1,4]<|gr H fun gk H=>Dv.fR Q T Q Q rl U4 c4 gk.1 gk.2<|kI Q T Q sc4 Q<|Dv.lit bJ ([bJ.at a0.cH xd]:List Bool) (css:=[[vB (bJ.at a0.cH xd)]]) Q T rl U4 c4 z4 Q dc dc Q ⟨(cells_one (ah Q)),T⟩ Q Q Q<|gr H fun gm H=>ap bJ 6 ([bJ.at a0.cH xd]:List Bool) bF rl (.inr ⟨_,rl⟩) AH gm pB fun vm=>?_
   refine go 1<|sx 1 Q T Q Q (cells_one bH) BJ Q Q Q pB ?_
   refine .fin<|rg 3 0<|go 3<|ns 7 [0,1,2,3,4,5,6] 1 ?_
   exact bk ja (pe.1,av (xd+1),pe.2.2.1++([ak.K.at a0.fL xd]:List ak),pe.2.2.2++([bJ.at a0.cH xd]:List Bool),vl,vm) H
  refine wr 23 0<|gp 3 ?_
  cases ci:!xc
  ·
   have H:=H.cf ci
   refine go 20<|WP.cond Q nofun (fun _=>?_)
   refine WP.skip ?_
   have H:=H.out
   exact jn ((xc,false,xe,xf),vh,vi) H
  have H:=H.ct ci
  refine kX 6 [3,0] ?_
  cases cj:dJ a1.ab ((ak.K.at a0.fL xd).ab)
  rotate_left
  ·
   have H:=H.ct cj
   refine go 14<|WP.cond Q (fun _=>?_) nofun
   refine wr 7 80<|gl 3 [1,3]<|Dv.lit ak.K ([a1]:List ak) (css:=[ak.enc a1]) Q T eW gN iy vM Q dc dc Q ⟨(aS (ak.K.one _)),T⟩ Q Q Q<|gr H fun gn H=>ap ak.K 5 ([a1]:List ak) bF eW (.inr ⟨_,eW⟩) nS gn nofun fun vn=>?_
   refine go 1<|sx 1 Q T Q Q (cells_one bH) rV Q Q Q nofun ?_
   refine .fin<|wr 6 40<|gl 2 [1]<|Dv.lit bJ ([false]:List Bool) (css:=[[vB false]]) Q T rl U4 c4 z4 Q dc dc Q ⟨(cells_one (ah Q)),T⟩ Q Q Q<|gr H fun gu H=>ap bJ 6 ([false]:List Bool) bF rl (.inr ⟨_,rl⟩) AH gu nofun fun vo=>?_
   refine go 1<|sx 1 Q T Q Q (cells_one bH) BJ Q Q Q nofun ?_
   refine .fin<|rg 1 0<|gq 1 ?_
   have H:=H.out
   exact jn ((true,true,xe++([a1]:List ak),xf++([false]:List Bool)),vn,vo) H
  have H:=H.cf cj
  refine kX 6 [3,0] ?_
  cases ck:decide (a1.ab=((ak.K.at a0.fL xd).ab))
  ·
   have H:=H.cf ck
   refine go 8<|WP.cond Q nofun (fun _=>?_)
   refine WP.skip ?_
   have H:=H.out
   exact jn ((xc,false,xe,xf),vh,vi) H
  have H:=H.ct ck
  refine gl 8 [3,0]<|cf H ?_ ?_ <;> intro H
  ·
   refine WP.skip ?_
   have H:=H.out
   exact jn ((xc,dJ a1.aj ((ak.K.at a0.fL xd).aj),xe,xf),vh,vi) H
  refine wr 7 80<|gl 3 [1,3]<|Dv.lit ak.K ([a1]:List ak) (css:=[ak.enc a1]) Q T eW gN iy vM Q dc dc Q ⟨(aS (ak.K.one _)),T⟩ Q Q Q<|gr H fun gv H=>ap ak.K 5 ([a1]:List ak) bF eW (.inr ⟨_,eW⟩) nS gv nofun fun vq=>?_
  refine go 1<|sx 1 Q T Q Q (cells_one bH) rV Q Q Q nofun ?_
  refine .fin<|wr 6 40<|gl 2 [1]<|Dv.lit bJ ([false]:List Bool) (css:=[[vB false]]) Q T rl U4 c4 z4 Q dc dc Q ⟨(cells_one (ah Q)),T⟩ Q Q Q<|gr H fun gw H=>ap bJ 6 ([false]:List Bool) bF rl (.inr ⟨_,rl⟩) AH gw nofun fun vr=>?_
  refine go 1<|sx 1 Q T Q Q (cells_one bH) BJ Q Q Q nofun ?_
  refine .fin<|rg 1 0<|gq 1 ?_
  have H:=H.out
  exact jn ((true,dJ a1.aj ((ak.K.at a0.fL xd).aj),xe++([a1]:List ak),xf++([false]:List Bool)),vq,vr) H
 have H:=H.ct cg
 refine gl 6 [0,3]<|ce H ?_ ?_ <;> intro H
 ·
  refine WP.seq<|wr 4 0<|gl 2 [3,0]<|el H fun tc hac H=>cl Q (cL 104) Q (jy.c hac)<|go 1<|cf H ?_ ?_ <;> intro H
  ·
   refine WP.skip<|WP.exit<|rg 3 0<|go 3<|ns 7 [0,1,2,3,4,5,6] 1 ?_
   exact bk ja (xc,av (xd+1),xe,xf,vh,vi) H
  refine wr 4 2<|gl 1 [4]<|sy 2 ?_
  refine gq 2 ?_
  have H:=H.eR
  cases H.out; exact rt i2 Q () 7 [0,1,2,3,4,5,6] 7 (.cons (au Q U37 Q c37 (aa 2 Q) Q) (.cons (aB Q) (.cons (aB Q) .nil)))
 refine WP.skip<|WP.jh H (fun qj:(Bool×Bool×(List ak)×(List Bool))×OV×OV=>qj.1) (fun qj=>[(2,dR ba),(3,dR bc),(4,dR bd),(8,dR be),(9,vB qj.1.1),(10,vI xd),(11,dR bg)]) (fun qj=>[aC bg 52 (ak.enc (ak.K.at a0.fL xd)),aC be 37 [eq qj.2.1.1,eq qj.2.2.1],aC bd 37 [dH,dH],aC bc 52 (ak.enc a1),aC ba 37 (kB.enc a0),own ak.K qj.2.1.1 qj.1.2.2.1,own bJ qj.2.2.1 qj.1.2.2.2]++F) (fun qj H=>?_) (fun H=>?_)
 ·
  obtain ⟨pg,vt,vu⟩:=qj
  refine wr 7 80<|gl 3 [1,0]<|Dv.lit ak.K ([ak.K.at a0.fL xd]:List ak) (css:=[ak.enc (ak.K.at a0.fL xd)]) Q T eW gN iy vM Q dc dc Q ⟨(aS (ak.K.one _)),T⟩ Q Q Q<|gr H fun gy H=>ap ak.K 5 ([ak.K.at a0.fL xd]:List ak) bF eW (.inr ⟨_,eW⟩) nS gy nofun fun vv=>?_
  refine go 1<|sx 1 Q T Q Q (cells_one bH) rV Q Q Q nofun ?_
  refine .fin<|dg mX 11 1280<|gl 5 [1,4]<|gr H fun gz H=>Dv.fR Q T Q Q rl U4 c4 gz.1 gz.2<|kI Q T Q sc4 Q<|Dv.lit bJ ([bJ.at a0.cH xd]:List Bool) (css:=[[vB (bJ.at a0.cH xd)]]) Q T rl U4 c4 z4 Q dc dc Q ⟨(cells_one (ah Q)),T⟩ Q Q Q<|gr H fun gaa H=>ap bJ 6 ([bJ.at a0.cH xd]:List Bool) bF rl (.inr ⟨_,rl⟩) AH gaa pB fun vx=>?_
  refine go 1<|sx 1 Q T Q Q (cells_one bH) BJ Q Q Q pB ?_
  refine .fin<|rg 3 0<|go 3<|ns 7 [0,1,2,3,4,5,6] 1 ?_
  exact bk ja (pg.1,av (xd+1),pg.2.2.1++([ak.K.at a0.fL xd]:List ak),pg.2.2.2++([bJ.at a0.cH xd]:List Bool),vv,vx) H
 refine wr 23 0<|gp 3 ?_
 cases cn:!xc
 ·
  have H:=H.cf cn
  refine go 20<|WP.cond Q nofun (fun _=>?_)
  refine WP.skip ?_
  have H:=H.out
  exact jn ((xc,false,xe,xf),vh,vi) H
 have H:=H.ct cn
 refine kX 6 [3,0] ?_
 cases co:dJ a1.ab ((ak.K.at a0.fL xd).ab)
 rotate_left
 ·
  have H:=H.ct co
  refine go 14<|WP.cond Q (fun _=>?_) nofun
  refine wr 7 80<|gl 3 [1,3]<|Dv.lit ak.K ([a1]:List ak) (css:=[ak.enc a1]) Q T eW gN iy vM Q dc dc Q ⟨(aS (ak.K.one _)),T⟩ Q Q Q<|gr H fun gab H=>ap ak.K 5 ([a1]:List ak) bF eW (.inr ⟨_,eW⟩) nS gab nofun fun vy=>?_
  refine go 1<|sx 1 Q T Q Q (cells_one bH) rV Q Q Q nofun ?_
  refine .fin<|wr 6 40<|gl 2 [1]<|Dv.lit bJ ([false]:List Bool) (css:=[[vB false]]) Q T rl U4 c4 z4 Q dc dc Q ⟨(cells_one (ah Q)),T⟩ Q Q Q<|gr H fun gac H=>ap bJ 6 ([false]:List Bool) bF rl (.inr ⟨_,rl⟩) AH gac nofun fun vz=>?_
  refine go 1<|sx 1 Q T Q Q (cells_one bH) BJ Q Q Q nofun ?_
  refine .fin<|rg 1 0<|gq 1 ?_
  have H:=H.out
  exact jn ((true,true,xe++([a1]:List ak),xf++([false]:List Bool)),vy,vz) H
 have H:=H.cf co
 refine kX 6 [3,0] ?_
 cases cp:decide (a1.ab=((ak.K.at a0.fL xd).ab))
 ·
  have H:=H.cf cp
  refine go 8<|WP.cond Q nofun (fun _=>?_)
  refine WP.skip ?_
  have H:=H.out
  exact jn ((xc,false,xe,xf),vh,vi) H
 have H:=H.ct cp
 refine gl 8 [3,0]<|cf H ?_ ?_ <;> intro H
 ·
  refine WP.skip ?_
  have H:=H.out
  exact jn ((xc,dJ a1.aj ((ak.K.at a0.fL xd).aj),xe,xf),vh,vi) H
 refine wr 7 80<|gl 3 [1,3]<|Dv.lit ak.K ([a1]:List ak) (css:=[ak.enc a1]) Q T eW gN iy vM Q dc dc Q ⟨(aS (ak.K.one _)),T⟩ Q Q Q<|gr H fun gad H=>ap ak.K 5 ([a1]:List ak) bF eW (.inr ⟨_,eW⟩) nS gad nofun fun vaa=>?_
 refine go 1<|sx 1 Q T Q Q (cells_one bH) rV Q Q Q nofun ?_
 refine .fin<|wr 6 40<|gl 2 [1]<|Dv.lit bJ ([false]:List Bool) (css:=[[vB false]]) Q T rl U4 c4 z4 Q dc dc Q ⟨(cells_one (ah Q)),T⟩ Q Q Q<|gr H fun gae H=>ap bJ 6 ([false]:List Bool) bF rl (.inr ⟨_,rl⟩) AH gae nofun fun vab=>?_
 refine go 1<|sx 1 Q T Q Q (cells_one bH) BJ Q Q Q nofun ?_
 refine .fin<|rg 1 0<|gq 1 ?_
 have H:=H.out
 exact jn ((true,dJ a1.aj ((ak.K.at a0.fL xd).aj),xe++([a1]:List ak),xf++([false]:List Bool)),vaa,vab) H
theorem my.c (h:my.f k a0=some r):Pt prog 105 [agg (ak.enc a0)] (vB r):=by
 refine pf func105 h fun R0 F H=>?_
 refine wr 2 1<|Dv.box Q T Q cA nofun fun ba=>go 1<|wr 8 0<|gl 1 [0]<|el H fun ta haa H=>cl Q (cL 96) Q (eN.c haa)<|gp 1 ?_
 cases cc:ta
 ·
  have H:=H.cf cc
  refine gq 5 ?_
  cases H.out; exact ek 1
 have H:=H.ct cc
 refine Es 5 [0] ?_
 cases H.out; exact ek 1
theorem slices_BinarySearchFunc_Edu_Edu.c (h:slices_BinarySearchFunc_Edu_Edu.f k a0 a1 a2=some r):Pt prog 166 [sl ak.K a0,agg (ak.enc a1),pM a2] (kZ [vI r.1,vB r.2]):=by
 refine pf func166 h fun R0 F H=>?_
 refine wr 3 1<|Dv.box Q T Q cA nofun fun ba=>go 2<|wr 3 0<|go 1<|Dv.fj Q T Q eW<|go 1<|so<|sq H id [0,2,4,8] (fun pa=>[(9,vI pa.1)]) (fun _=>[]) (fun pa H=>?_) (fun H=>?_)
 ·
  refine wd mX 16 0<|gp 5 ?_
  cases cc:decide (pa.1<(a0.length:Int))
  ·
   have H:=H.cf cc
   refine gq 11 ?_
   cases H.out; exact ek 1
  have H:=H.ct cc
  refine go 3<|gr H fun ga H=>Dv.fR Q (gg Q) Q Q eW gN iy ga.1 ga.2<|iv Q (gg Q) Q uZ Q<|gl 1 [0]<|el H fun ta haa H=>Dv.tS (ret:=vI ta) Q (gg Q) Q Q ⟨_,_,_,haa,Q,Q⟩<|gq 4 ?_
  cases H.out; exact ek 1
 refine WP.block<|ws 1 [0] 0 ?_
 refine lq (fun j_ (pc:Int×Int)=>slices_BinarySearchFunc_Edu_Edu.l0 k a0 a1 a2 j_ pc.1 pc.2) (0,(a0.length:Int)) H [0,2,4,8] (fun pc=>[(9,vI pc.1),(10,vI pc.2)]) (fun _=>[]) ?_
 rintro j_ ⟨xc,xd⟩ H
 rcases j_ with _ | ja
 ·
  exact (aU.no H).elim
 try dsimp only at H
 rw [slices_BinarySearchFunc_Edu_Edu.l0] at H
 refine WP.seq<|so<|cf H ?_ ?_ <;> intro H
 ·
  refine WP.exit ?_
  have H:=H.out
  exact jn (xc,xd,decide (xc<xd)) H
 refine WP.skip<|WP.block<|wr 7 0<|go 3<|Dv.JA Q T Q U3 HU<|ot Q Q Q (CD dc)<|Dv.JA Q T Q HU U3<|go 1<|wd mX 8 0<|go 3<|gr H fun gb H=>Dv.fR Q T Q Q eW gN iy gb.1 gb.2<|iv Q T Q uZ Q<|gl 1 [0]<|el H fun tc hac H=>Dv.tS (ret:=vI tc) Q T Q Q ⟨_,_,_,hac,Q,Q⟩<|go 1<|cf H ?_ ?_ <;> intro H
 ·
  exact rg 2 0<|go 2<|bk ja (xc,av ((IntKind.u64.wrap (av (xc+xd))).fdiv 2)) H
 exact rg 3 0<|go 3<|bk ja (av ((av ((IntKind.u64.wrap (av (xc+xd))).fdiv 2))+1),xd) H
theorem dY.c (h:dY.f k a0 a1=some r):Pt prog 167 [agg (ak.enc a0),agg (ak.enc a1)] (vI r):=by
 refine pf func167 h fun R0 F H=>?_
 refine wr 3 3<|Dv.box Q T Q cA nofun fun ba=>Dv.box Q T Q cA nofun fun bc=>go 1<|wd mX 13 0<|gl 4 [1,0]<|el H fun ta haa H=>cl Q (cL 65) Q (aD.c haa)<|gl 4 [1,0]<|el H fun tc hac H=>cl Q (cL 65) Q (aD.c hac)<|Dv.lit (bz .i64) ([ta,tc]:List Int) (css:=[[vI ta],[vI tc]]) Q T rP U3 c3 z3 Q dc dc Q ⟨(cells_one (ah Q)),⟨(cells_one (ah Q)),T⟩⟩ Q Q Q<|el H fun te had H=>cl Q (cL 128) Q (bG.c had)<|gq 1 ?_
 cases H.out; exact ek 2
theorem dW.c {v0_0 v0_1:OV} {b0_:Nat} (h:dW.f k a0 a1=some r):Tr prog 106 [dR b0_,agg (ak.enc a1)] [aC b0_ 190 [eq v0_0.1,eq v0_1.1],own ak.K v0_0.1 a0.fl] (γ:=Unit) (fun _=>True) (fun g=>kZ [vI r.1,vB r.2]) (fun g=>[aC b0_ 190 [eq v0_0.1,eq v0_1.1],own ak.K v0_0.1 a0.fl]):=by
 refine tf func106 h fun R0 F H=>?_
 refine wr 3 1<|Dv.box Q T Q cA nofun fun ba=>go 2<|wd mX 10 0<|gl 5 [1,0]<|el H fun ta haa H=>pN (B:=[own ak.K v0_0.1 a0.fl]) 3 [2,0,1] (cL 166) (Pt.xD _ (Pt.kj (slices_BinarySearchFunc_Edu_Edu.c haa) (.cons bQ (.cons bQ (.cons (yv (cL 167) (by rintro _ _ ⟨a0_,a1_,r_,h_,rfl,rfl⟩; exact dY.c h_)) .nil)))) (.cons (pI (aa 0 Q)) (.cons rn (.cons rn .nil))) (A6 (nY lT (nY lT tP)))) ?_
 refine dV Q T Q Q<|dV Q T Q Q<|gq 2 ?_
 cases H.out; exact et () 3 [0,1,2] 1
theorem qt.c (h:qt.f a0=some r):Pt prog 168 [agg (ak.enc a0)] (agg (vV.enc r)):=by
 refine pf func168 h fun R0 F H=>?_
 refine wr 2 3<|Dv.box Q T Q cA nofun fun ba=>al Q T zc294 nofun fun bc=>.fin<|wr 12 2048<|gl 10 [1,1,1,1,1]<|Dv.kJ (qs:=[vI a0.aH,vS a0.ab,vS a0.aj,vS a0.ae,vB a0.aq]) (css:=[[vI a0.aH],[vS a0.ab],[vS a0.aj],[vS a0.ae],[vB a0.aq]]) Q T Ll pl294 z294 Q ⟨(cells_one (ah Q)),⟨(cells_one (ah Q)),⟨(cells_one (ah Q)),⟨(cells_one (ah Q)),⟨(cells_one (ah Q)),T⟩⟩⟩⟩⟩ Q Q<|sy 0 ?_
 refine .fin ?_
 cases H.out; exact r2 i2 Q (.cons (au Q Ll Q c294 (aa 0 Q) Q) .nil)
theorem lu.c (h:lu.f a0 a1=some r):Pt prog 232 [sl (bz .u8) a0,sl (bz .u8) a1] (vI r):=by
 refine pf func232 h fun R0 F H=>?_
 refine so<|wr 4 0<|go 2<|Dv.KS Q T Q (Lb func260 kr Q xf260 xg260)<|gq 1 ?_
 cases H.out; exact ek 0
theorem cC.c {p0_:OV} (h:cC.f k a0 a1=some r):Tr prog 261 [eq p0_.1,vI a1] [own (bz .u8) p0_.1 a0] (γ:=OV) (fun _=>True) (fun g=>eq g.1) (fun g=>[own (bz .u8) g.1 r]):=by
 refine tf func261 h fun R0 F H=>?_
 refine so<|wr 3 0<|go 1<|Dv.EG Q T Q Q<|go 1<|wr 7 32<|go 2<|Dv.kl Q T Q (aa 0 Q) jL<|go 1<|Dv.kl Q T Q (aa 0 Q) jL<|gr H fun ga H=>Dv.slo (jj:=0) Q T Q Q jL U5 c5 dK (eY Q ga.1) (.inr ⟨⟨_,_,Q,ga.1,Q⟩,Q,Q⟩) ga.2.1 ga.2.2 nofun (fun va=>?_)
 refine go 1<|sq H (fun qh:(Int×Bool×(List Int))×OV=>qh.1) [] (fun qh=>[(0,eq qh.2.1),(1,vI qh.1.1)]) (fun qh=>[(0,own (bz .u8) qh.2.1 qh.1.2.2)]) (fun qh H=>?_) (fun H=>?_)
 ·
  obtain ⟨pa,vb⟩:=qh
  refine wr 6 16<|go 2<|Dv.JA Q T Q U3 U5<|Dv.lit (bz .u8) ([IntKind.u8.wrap (pa.1)]:List Int) (css:=[[eq (.int .u8 (IntKind.u8.wrap (pa.1)))]]) Q T jL U5 c5 z5 Q dc dc Q ⟨(cells_one (ah Q)),T⟩ Q Q Q<|gr H fun gb H=>ap (bz .u8) 0 ([IntKind.u8.wrap (pa.1)]:List Int) bF jL (.inr ⟨_,jL⟩) si gb nofun fun vd=>?_
  refine gq 1 ?_
  cases H.out; exact et vd 1 [0] 0
 refine WP.block<|ws 1 [0] 0 ?_
 refine lq (fun j_ (pc:Int×(List Int)×OV)=>cC.l0 k j_ pc.1 pc.2.1) (max a1 0,(a0.take ((a0.length:Int).toNat)).drop 0,va) H [] (fun pc=>[(0,eq pc.2.2.1),(1,vI pc.1)]) (fun pc=>[(0,own (bz .u8) pc.2.2.1 pc.2.1)]) ?_
 rintro j_ ⟨xc,xd,ve⟩ H
 rcases j_ with _ | ja
 ·
  exact (aU.no H).elim
 try dsimp only at H
 rw [cC.l0] at H
 refine WP.seq<|so<|cf H ?_ ?_ <;> intro H
 ·
  refine WP.exit ?_
  have H:=H.out
  exact jn ((xc,decide (128≤xc),xd),ve) H
 refine WP.skip<|WP.seq<|WP.block<|rg 8 64<|go 2<|ot Q Q Q (rh dc)<|go 1<|Dv.JA Q T Q U3 U5<|Dv.lit (bz .u8) ([IntKind.u8.wrap (av ((xc.tmod 128)+128))]:List Int) (css:=[[eq (.int .u8 (IntKind.u8.wrap (av ((xc.tmod 128)+128))))]]) Q T jL U5 c5 z5 Q dc dc Q ⟨(cells_one (ah Q)),T⟩ Q Q Q<|gr H fun gi H=>ap (bz .u8) 0 ([IntKind.u8.wrap (av ((xc.tmod 128)+128))]:List Int) bF jL (.inr ⟨_,jL⟩) si gi nofun fun vh=>?_
 exact go 1<|rg 3 0<|go 1<|ot Q Q Q (oa dc)<|go 1<|bk ja (av (xc.tdiv 128),xd++([IntKind.u8.wrap (av ((xc.tmod 128)+128))]:List Int),vh) H
theorem oW.c {p0_:OV} (h:oW.f k a0 a1=some r):Tr prog 262 [eq p0_.1,vS a1] [own (bz .u8) p0_.1 a0] (γ:=OV) (fun _=>True) (fun g=>eq g.1) (fun g=>[own (bz .u8) g.1 r]):=by
 refine tf func262 h fun R0 F H=>?_
 refine so<|wr 7 40<|go 2<|Dv.lens Q T Q U9<|el H fun ta haa H=>cx 1 [0] (cL 261) (cC.c haa (p0_:=p0_)) nofun fun ga _=>?_
 refine go 1<|gr H fun gb H=>ap (bz .u8) 0 (nJ a1) DI jL (.inl U9) si gb nofun fun va=>?_
 refine gq 1 ?_
 cases H.out; exact et va 1 [0] 0
theorem oL.c {p0_:OV} (h:oL.f k a0 a1=some r):Tr prog 263 [eq p0_.1,vB a1] [own (bz .u8) p0_.1 a0] (γ:=OV) (fun _=>True) (fun g=>eq g.1) (fun g=>[own (bz .u8) g.1 r]):=by
 refine tf func263 h fun R0 F H=>?_
 refine so<|WP.seq<|so<|ce H ?_ ?_ <;> intro H
 ·
  refine wr 3 2<|go 1<|el H fun ta haa H=>cx 1 [0] (cL 261) (cC.c haa (p0_:=p0_)) nofun fun ga _=>?_
  refine gq 1 ?_
  cases H.out; exact et ga 1 [0] 0
 refine WP.skip<|wr 3 2<|go 1<|el H fun tc hac H=>cx 1 [0] (cL 261) (cC.c hac (p0_:=p0_)) nofun fun gb _=>?_
 refine gq 1 ?_
 cases H.out; exact et gb 1 [0] 0
theorem cT.c (h:cT.f k a0=some r):Tr prog 233 [agg (ak.enc a0)] [] (γ:=OV) (fun _=>True) (fun g=>eq g.1) (fun g=>[own (bz .u8) g.1 r]):=by
 refine tf func233 h fun R0 F H=>?_
 refine wr 2 1<|Dv.box Q T Q cA nofun fun ba=>go 1<|wr 4 4<|gl 2 [0]<|vg (dw (bz .u8) none) fun _ _=>?_
 refine el H fun ta haa H=>cx 2 [0,1] (cL 261) (cC.c haa (p0_:=jS)) nofun fun ga _=>?_
 refine go 1<|WP.jh H (fun qh:(Int×Bool×(List Int))×OV=>qh.1) (fun qh=>[(1,dR ba),(3,eq qh.2.1)]) (fun qh=>[aC ba 52 (ak.enc a0),own (bz .u8) qh.2.1 qh.1.2.2]++F) (fun qh H=>?_) (fun H=>?_)
 rotate_left
 ·
  refine wr 11 0<|gl 8 [1,1,1,1]<|Dv.lit aw ([a0.ab,a0.aj,a0.bI,a0.ae]:List BA) (css:=[[vS a0.ab],[vS a0.aj],[vS a0.bI],[vS a0.ae]]) Q T dj U9 c9 z9 Q dc dc Q ⟨(cells_one (ah Q)),⟨(cells_one (ah Q)),⟨(cells_one (ah Q)),⟨(cells_one (ah Q)),T⟩⟩⟩⟩ Q Q Q<|Dv.fj Q T Q dj<|go 1<|WP.block<|ws 2 [1,0] 0 ?_
  refine lq (fun j_ (pa:Int×(List Int)×OV)=>cT.l1 k a0 j_ pa.1 pa.2.1) (0,ta,ga) H [1,19,20] (fun pa=>[(3,eq pa.2.2.1),(21,vI pa.1)]) (fun pa=>[(1,own (bz .u8) pa.2.2.1 pa.2.1)]) ?_
  rintro j_ ⟨xc,xd,va⟩ H
  rcases j_ with _ | ja
  ·
   exact (aU.no H).elim
  try dsimp only at H
  rw [cT.l1] at H
  refine so<|WP.seq<|cf H ?_ ?_ <;> intro H
  ·
   refine WP.exit ?_
   have H:=H.out
   exact jn ((xc,decide (xc<(([a0.ab,a0.aj,a0.bI,a0.ae]:List BA).length:Int)),xd),va) H
  refine WP.skip<|WP.seq<|WP.block<|wr 3 0<|gr H fun gb H=>Dv.fR Q T Q Q dj U9 c9 gb.1 gb.2<|kI Q T Q oc Q<|go 1<|rg 4 4<|go 2<|el H fun tc hac H=>cx 2 [1,0] (cL 262) (oW.c hac (p0_:=va)) nofun fun gi _=>?_
  refine go 1<|rg 2 0<|go 2<|ns 2 [1,0] 0 ?_
  exact bk ja (av (xc+1),tc,gi) H
 obtain ⟨pc,vb⟩:=qh
 refine wr 5 8<|gl 3 [0]<|el H fun te had H=>cx 2 [1,0] (cL 263) (oL.c had (p0_:=vb)) nofun fun gj _=>?_
 refine go 1<|WP.jh H (fun qi:(Int×Bool×(List Int))×OV=>qi.1) (fun qi=>[(3,eq qi.2.1)]) (fun qi=>[aC ba 52 (ak.enc a0),own (bz .u8) qi.2.1 qi.1.2.2]++F) (fun qi H=>?_) (fun H=>?_)
 ·
  obtain ⟨pe,vd⟩:=qi
  refine sp ?_
  cases H.out; exact et vd 2 [0,1] 1
 refine wr 11 0<|gl 8 [1,1,1,1]<|Dv.lit (bz .i64) ([a0.bZ,a0.aX,a0.aV,a0.bf]:List Int) (css:=[[vI a0.bZ],[vI a0.aX],[vI a0.aV],[vI a0.bf]]) Q T rP U3 c3 z3 Q dc dc Q ⟨(cells_one (ah Q)),⟨(cells_one (ah Q)),⟨(cells_one (ah Q)),⟨(cells_one (ah Q)),T⟩⟩⟩⟩ Q Q Q<|Dv.fj Q T Q rP<|go 1<|WP.block<|ws 2 [1,0] 0 ?_
 refine lq (fun j_ (pg:Int×(List Int)×OV)=>cT.l0 k a0 j_ pg.1 pg.2.1) (0,te,gj) H [41,42] (fun pg=>[(3,eq pg.2.2.1),(43,vI pg.1)]) (fun pg=>[(1,own (bz .u8) pg.2.2.1 pg.2.1)]) ?_
 rintro j_ ⟨xe,xf,ve⟩ H
 rcases j_ with _ | jc
 ·
  exact (aU.no H).elim
 try dsimp only at H
 rw [cT.l0] at H
 refine so<|WP.seq<|cf H ?_ ?_ <;> intro H
 ·
  refine WP.exit ?_
  have H:=H.out
  exact jn ((xe,decide (xe<(([a0.bZ,a0.aX,a0.aV,a0.bf]:List Int).length:Int)),xf),ve) H
 refine WP.skip<|WP.seq<|WP.block<|wr 3 0<|gr H fun gk H=>Dv.fR Q T Q Q rP U3 c3 gk.1 gk.2<|kI Q T Q Dj Q<|go 1<|rg 4 4<|go 2<|el H fun tg hae H=>cx 2 [1,0] (cL 261) (cC.c hae (p0_:=ve)) nofun fun gm _=>?_
 refine go 1<|rg 2 0<|go 2<|ns 2 [1,0] 0 ?_
 exact bk jc (av (xe+1),tg,gm) H
theorem lz.c (h:lz.f k a0 a1=some r):Pt prog 169 [agg (ak.enc a0),agg (ak.enc a1)] (vI r):=by
 refine pf func169 h fun R0 F H=>?_
 refine wr 3 3<|Dv.box Q T Q cA nofun fun ba=>Dv.box Q T Q cA nofun fun bc=>go 1<|WP.seq<|dgo mX [0,1,2,3,4,5,7,6,8,9,10,11,12] [6,8]<|gl 4 [1,0]<|el H fun ta haa H=>cl Q (cL 129) Q (cD.c haa)<|gl 2 [1,0]<|el H fun tc hac H=>Dv.yq (pre:=[]) (F:=[aC bc 52 (ak.enc a1),aC ba 52 (ak.enc a0)]++F) (fun ga:OV=>[own (bz .u8) ga.1 tc,aC bc 52 (ak.enc a1),aC ba 52 (ak.enc a0)]++F) Q T (cL 233) Q (cT.c hac) (lK (L:=[aC bc 52 (ak.enc a1),aC ba 52 (ak.enc a0)]) (F:=F) [0,1] Q Q Q) Q pE (fun ga _=>?_)
 refine el H fun te had H=>cx 3 [0,1,2] (cL 233) (cT.c had) pC fun gb _=>?_
 refine el H fun tg hae H=>pN (B:=[own (bz .u8) ga.1 tc,own (bz .u8) gb.1 te]) 4 [1,0,2,3] (cL 232) (Pt.xD _ (lu.c hae) (.cons (pI (aa 0 Q)) (.cons (pI (aa 1 Q)) .nil)) lT) ?_
 refine Dv.lit (bz .i64) ([ta,tg]:List Int) (css:=[[vI ta],[vI tg]]) Q T rP U3 c3 z3 Q dc dc Q ⟨(cells_one (ah Q)),⟨(cells_one (ah Q)),T⟩⟩ Q Q Q<|el H fun tj haf H=>cl Q (cL 128) Q (bG.c haf)<|gq 1 ?_
 cases H.out; exact ek 4
theorem jY.c (h:jY.f k a0 a1=some r):Pt prog 107 [agg (ak.enc a0),agg (ak.enc a1)] (vB r):=by
 refine pf func107 h fun R0 F H=>?_
 refine wr 3 3<|Dv.box Q T Q cA nofun fun ba=>Dv.box Q T Q cA nofun fun bc=>go 1<|wd mX 12 0<|gl 1 [1]<|el H fun ta haa H=>cl Q (cL 168) Q (qt.c haa)<|gl 1 [0]<|el H fun tc hac H=>cl Q (cL 168) Q (qt.c hac)<|Dv.eqs [.int .i64 ta.aH,.string ta.ab,.string ta.aj,.string ta.ae,.bool ta.aq] [.int .i64 tc.aH,.string tc.ab,.string tc.aj,.string tc.ae,.bool tc.aq] Q T Q Q Q Q eg294 (fun _=>mI 2 dc (fun _=>Ks ta tc))<|gp 1 ?_
 cases cc:decide (ta=tc)
 ·
  have H:=H.cf cc
  refine gq 6 ?_
  cases H.out; exact ek 2
 have H:=H.ct cc
 refine gl 2 [1,0]<|el H fun te had H=>Dv.call Q (gg Q) (cL 169) Q (lz.c had)<|gq 3 ?_
 cases H.out; exact ek 2
theorem cZ.c {p0_:OV} (h:cZ.f a0 a1 a2=some r):Tr prog 108 [eq p0_.1,vI a1,sl ak.K a2] [own ak.K p0_.1 a0] (γ:=OV) (fun _=>True) (fun g=>eq g.1) (fun g=>[own ak.K g.1 r]):=by
 unfold cZ.f at h
 obtain ⟨⟨h0,h1,h2,h3,h4⟩,h5⟩:=(aU.of h).an
 obtain rfl:=aU.out h5
 clear h h5
 obtain ⟨i,rfl⟩:=Int.eq_ofNat_of_zero_le h0
 have hi:i≤a0.length:=om
 obtain ⟨v,hv⟩:=p0_
 obtain ⟨ti,i1,i2,i3,i4⟩:=nS
 refine Tr.body func108 (c:=_) Q ntmps108 (Nat.le_of_ble_eq_true Q) fun R0 F=>WP.seq<|WP.rm [(0,false)] kr<|go 1<|WP.seq<|WP.rm [(0,false),(1,false),(2,false)] kr<|go 2<|Dv.sloa (Kd:=ak.K) (xs:=a0) (v:=v) Q T Q (aa 0 Q) eW gN iy (eQ (m:=i) Q) hi<|.fin<|WP.seq<|WP.rm [(0,false),(1,false),(2,false)] kr<|go 1<|Dv.fj Q T Q eW<|go 1<|WP.seq<|WP.seq<|WP.rm [(0,false),(1,false)] kr<|go 2<|WP.cond Q (fun c0=>?_) (fun c0=>?_)
 ·
  exfalso; have:=beq_iff_eq.1 c0; omega
 refine WP.skip<|WP.seq<|WP.rm [(0,false),(1,false),(2,false)] kr<|go 1<|Dv.kl (Kd:=ak.K) (xs:=a0) (v:=v) Q T Q (aa 0 Q) eW<|go 1<|WP.seq<|WP.seq<|WP.rm [(0,false),(1,false),(2,false)] kr<|go 3<|WP.cond Q (fun c1=>?_) (fun c1=>?_)
 ·
  have e1:i=a0.length:=by have:=beq_iff_eq.1 c1; omega
  subst e1
  refine WP.seq<|WP.rm [(0,false),(1,false),(2,true),(3,false)] kr<|go 2<|Dv.Fv (Kd:=ak.K) (xs:=a0) (v:=v) (jj:=0) (ys:=a2) (fun v1:OV=>[own ak.K v1.1 (a0++a2)]++F) Q T Q Q Q bF eW (.inr ⟨_,eW⟩) nS Q dc om Q nofun (fun v1=>?_)
  refine gq 1 ?_
  have e2:a0.take (a0.length:Int).toNat++a2++a0.drop (a0.length:Int).toNat=a0++a2:=sM
  rw [e2]
  exact et v1 1 [0] 0
 refine WP.skip ?_
 have hlt:i<a0.length:=by have:¬ ((i:Int)=(a0.length:Int)):=(by simpa using c1); omega
 have hne:a0≠[]:=by intro e; subst e; simp at hlt
 rw [Int.toNat_natCast]
 refine wg (BT 0 Q hne) fun g hg=>?_
 rcases g with ⟨b,off,c,bT,A,C⟩
 change v = .slice (some ⟨b,off,none⟩) a0.length c∧a0.length≤c∧A.length=off∧off+c*ak.K.sz≤(A++a0.flatMap ak.K.enc++C).length at hg
 obtain ⟨rfl,hc,hA,hlen⟩:=hg
 change WP _ _ _ _ _ _ (aC b bT (A++a0.flatMap ak.K.enc++C)::F)
 have hsz:0<ak.K.sz:=dc
 have ml:∀ {p q:Nat},p≤q→p*ak.K.sz≤q*ak.K.sz:=fun h=>Nat.mul_le_mul_right _ h
 have fl:(A++a0.flatMap ak.K.enc++C).length=off+a0.length*ak.K.sz+C.length:=by rw [List.length_append,List.length_append,bL,hA]
 have fd:((a0.drop i).flatMap ak.K.enc).length=(a0.length-i)*ak.K.sz:=by rw [bL,List.length_drop]
 have fy:(a2.flatMap ak.K.enc).length=a2.length*ak.K.sz:=bL _
 have s1:i*ak.K.sz+a2.length*ak.K.sz+(a0.length-i)*ak.K.sz=(a0.length+a2.length)*ak.K.sz:=by rw [← Nat.add_mul,← Nat.add_mul]; congr 1; omega
 have s2:(i+a2.length)*ak.K.sz=i*ak.K.sz+a2.length*ak.K.sz:=Nat.add_mul ..
 have zl:(a0.take i++a2++a0.drop i).length=a0.length+a2.length:=by simp only [List.length_append,List.length_take,List.length_drop]; omega
 refine WP.seq<|WP.seq<|WP.rm [(0,false),(1,false),(2,false),(3,false),(4,false),(5,false)] kr<|go 2<|ot Q Q Q (nG (a:=a0.length) (b:=a2.length) om)<|go 1<|Dv.capk Q T Q eW<|go 1<|WP.cond Q (fun c2=>?_) (fun c2=>?_)
 ·
  have hg:c<a0.length+a2.length:=by have:=of_decide_eq_true c2; omega
  refine WP.seq<|WP.rm [(0,false),(1,false),(2,false),(3,false),(4,false),(5,false),(6,false),(7,false),(8,true),(9,false)] kr<|go 2<|Dv.wS (o':=off) (m':=i) (c':=c) Q T Q eW gN iy dK (eQ (m:=i) Q) (Nat.zero_le _) om (.inr Q) sM sM sM<|go 2<|ot Q Q Q (nG (a:=a0.length) (b:=a2.length) om)<|go 1<|ot Q Q Q (Hb (a:=a0.length+a2.length) (b:=i) om om)<|Dv.apmn (sz:=ak.K.sz) (jj:=0) (k1:=a0.length+a2.length-i) (N:=a0.length+a2.length) (Q:=(a0.take i).flatMap ak.K.enc) Q T Q Q eW U3 i1 i2 i3 i4 Q dc om om hg om h4 Q ?_ (HV (Kd:=ak.K) hi hA) nofun (fun w hw=>?_)
  ·
   rw [fl]; have:=ml (Nat.le_of_lt hlt); omega
  rcases w with ⟨b2,nc⟩
  replace hw:a0.length+a2.length≤nc:=hw
  refine gq 1 ?_
  generalize hZ:(Builtin.zeroCells (Value.cells _) ((b2,nc).2-i)).toList.map eq=Z
  have zz:Z.length=(nc-i)*ak.K.sz:=by rw [← hZ,List.length_map,Array.length_toList,Builtin.zeroCells,Array.size_map,Array.size_range]; rfl
  have ft:((a0.take i).flatMap ak.K.enc++Z).length=nc*ak.K.sz:=by rw [List.length_append,bL,List.length_take,Nat.min_eq_left hi,zz,← Nat.add_mul]; congr 1; omega
  have s3:=ml hw
  have s4:i*ak.K.sz+(a0.length-i)*ak.K.sz=a0.length*ak.K.sz:=by rw [← Nat.add_mul]; congr 1; omega
  refine WP.seq<|WP.rm [(0,false),(1,false),(2,false),(3,false),(4,true)] kr<|go 2<|Dv.wS (o':=i*ak.K.sz) (m':=a0.length+a2.length-i) (c':=nc-i) Q T Q eW gN iy (eQ (m:=i) Q) dK om hw (.inl (Nat.lt_of_lt_of_le om hw)) (Nat.zero_add _) Q Q<|go 1<|Dv.Ip (jj:=0) (kk:=a2.length) Q T Q Q eW gN iy AP om Q ?_ nofun ?_
  ·
   rw [ft,fy]; omega
  refine .fin ?_
  have l1:(n0 ((a0.take i).flatMap ak.K.enc++Z) (i*ak.K.sz) (a2.flatMap ak.K.enc)).length=nc*ak.K.sz:=by rw [uB (by rw [ft,fy]; omega),ft]
  refine WP.seq<|WP.Jl mX [(0,false),(1,false),(2,false),(3,false),(4,false),(5,false),(6,false),(7,false),(8,true)] kr<|go 3<|ot Q Q Q (nG (a:=i) (b:=a2.length) om)<|Dv.wS (o':=(i+a2.length)*ak.K.sz) (m':=a0.length-i) (c':=nc-(i+a2.length)) Q T Q eW gN iy (eQ (m:=i+a2.length) Q) dK om hw (.inl (Nat.lt_of_lt_of_le om hw)) (Nat.zero_add _) om Q<|go 2<|Dv.wS (o':=off+i*ak.K.sz) (m':=a0.length-i) (c':=c-i) Q T Q eW gN iy (eQ (m:=i) Q) dK hi hc (.inl om) Q Q Q<|Dv.Ip (jj:=0) (kk:=a0.length-i) Q T Q Q eW gN iy (Bg (aa 1 Q) hi hA) (Nat.min_self _) Q ?_ (fun _=>fG kr) ?_
  ·
   rw [l1,fd]; omega
  refine .fin ?_
  have l2:(n0 (n0 ((a0.take i).flatMap ak.K.enc++Z) (i*ak.K.sz) (a2.flatMap ak.K.enc)) ((i+a2.length)*ak.K.sz) ((a0.drop i).flatMap ak.K.enc)).length=nc*ak.K.sz:=by rw [uB (by rw [l1,fd]; omega),l1]
  refine WP.seq<|WP.rm [(0,false),(1,false)] kr<|go 2<|wg (wy (Kd:=ak.K) (off:=0) (n:=a0.length+a2.length) (c:=nc) (zs:=a0.take i++a2++a0.drop i) 0 Q zl hw (by rw [l2]; omega) (Jx hi)) fun _ _=>?_
  exact et (⟨.slice (some ⟨b2,0,none⟩) (a0.length+a2.length) nc,Q⟩:OV) 2 [1,0] 1
 have hg:a0.length+a2.length≤c:=by have:=of_decide_eq_false c2; omega
 refine WP.skip ?_
 have s3:=ml hg
 refine WP.seq<|WP.rm [(0,false),(1,false),(2,false),(3,false),(4,false),(5,false)] kr<|go 3<|ot Q Q Q (nG (a:=a0.length) (b:=a2.length) om)<|Dv.wS (o':=off) (m':=a0.length+a2.length) (c':=c) Q T Q eW gN iy dK (eQ (m:=a0.length+a2.length) Q) (Nat.zero_le _) hg (.inr Q) sM sM sM<|go 1<|WP.seq<|WP.seq<|WP.rm [(0,false),(1,false),(2,false),(3,false),(4,false),(5,false),(6,false),(7,false)] kr<|go 4<|ot Q Q Q (nG (a:=i) (b:=a2.length) om)<|Dv.wS (o':=off+(i+a2.length)*ak.K.sz) (m':=a0.length-i) (c':=c-(i+a2.length)) Q T Q eW gN iy (eQ (m:=i+a2.length) Q) dK om hg (.inl (Nat.lt_of_lt_of_le om hg)) Q om Q<|Dv.ovl Q T Q Q (aa 0 Q) h2 hsz func170 kr Q xf170 xg170 Q eW gN<|go 1<|WP.cond Q (fun c3=>?_) (fun c3=>by cases c3)
 refine WP.seq<|WP.Jl mX [(0,false),(1,false),(2,false),(3,false),(4,false),(5,false),(6,false),(7,false),(8,true)] kr<|go 3<|ot Q Q Q (nG (a:=i) (b:=a2.length) om)<|Dv.wS (o':=off+(i+a2.length)*ak.K.sz) (m':=a0.length-i) (c':=c-(i+a2.length)) Q T Q eW gN iy (eQ (m:=i+a2.length) Q) dK om hg (.inl (Nat.lt_of_lt_of_le om hg)) Q om Q<|go 2<|Dv.wS (o':=off+i*ak.K.sz) (m':=a0.length+a2.length-i) (c':=c-i) Q T Q eW gN iy (eQ (m:=i) Q) dK om hg (.inl om) Q Q Q<|Dv.Ip (jj:=0) (kk:=a0.length-i) Q T Q Q eW gN iy (Bg (aa 0 Q) hi hA) om Q ?_ (fun _=>fG kr) ?_
 ·
  rw [fd]; omega
 refine .fin ?_
 have l1:(n0 (A++a0.flatMap ak.K.enc++C) (off+(i+a2.length)*ak.K.sz) ((a0.drop i).flatMap ak.K.enc)).length=(A++a0.flatMap ak.K.enc++C).length:=uB (by rw [fd]; omega)
 refine WP.seq<|WP.rm [(0,false),(1,false),(2,false),(3,false),(4,true)] kr<|go 2<|Dv.wS (o':=off+i*ak.K.sz) (m':=a0.length+a2.length-i) (c':=c-i) Q T Q eW gN iy (eQ (m:=i) Q) dK om hg (.inl om) Q Q Q<|go 1<|Dv.Ip (jj:=0) (kk:=a2.length) Q T Q Q eW gN iy AP om Q ?_ nofun ?_
 ·
  rw [l1,fy]; omega
 refine .fin<|WP.seq<|WP.rm [(0,false),(1,false)] kr<|go 2<|wg (wy (Kd:=ak.K) (off:=off) (n:=a0.length+a2.length) (c:=c) (zs:=a0.take i++a2++a0.drop i) 0 Q zl hg (by rw [uB (by rw [l1,fy]; omega),l1]; exact hlen) (Jc hi hA om)) fun _ _=>?_
 exact et (⟨.slice (some ⟨b,off,none⟩) (a0.length+a2.length) c,Q⟩:OV) 1 [0] 0
theorem dB.c {p0_:OV} (h:dB.f a0 a1 a2=some r):Tr prog 172 [eq p0_.1,vI a1,agg (dq.enc a2)] [aQ.O p0_ a0] (γ:=Unit) (fun _=>True) (fun g=>kZ []) (fun g=>[aQ.O p0_ r]):=by
 refine tf func172 h fun R0 F H=>?_
 refine wr 1 1<|Dv.box Q T Q cA nofun fun ba=>.fin<|WP.seq<|wg (aQ.jf 1 Q) fun ga haa=>?_
 refine dg mX 8 128<|go 1<|Dv.bY haa Q T Q<|fp haa Q T Q ir<|gl 3 [0,3]<|gr H fun gb H=>?_
 have hac:a1.toNat<a0.fl.length:=bq gb
 refine Dv.jQ Q T Q (aa 1 Q) Q oF nF nZ gb.1 gb.2<|Dv.Jg (j:=a1.toNat) (f:=0) (jj:=1) a2 Q T Q Q (aS (dq.K.one _)) nF nZ Q Q hac (Nat.le_of_ble_eq_true Q) Q (fun _=>fG kr)<|.fin<|dg mX 8 128<|go 1<|Dv.bY haa Q T Q<|fp haa Q T Q ux<|gl 4 [0,3]<|Dv.mup (jj:=2) a1 Q T Q Q Q Q ug (dU U9) (fun _=>fG kr)<|.fin<|ng (aQ.shut (p:=p0_) (m:=(⟨a0.fl.set a1.toNat a2,mput a0.iU a2.dx a1⟩:aQ)) (ga.1,ga.2.1,ga.2.2) haa (pm 4 [0,1,2,3])) fun _ _=>?_
 obtain rfl:=aU.out H
 exact re Q () 2 [1,0] 1 .nil
theorem heap_ahead.c (h:heap_ahead.f k a0 a1=some r):Pt prog 235 [agg (dq.enc a0),agg (dq.enc a1)] (vI r):=by
 refine pf func235 h fun R0 F H=>?_
 refine wr 3 3<|Dv.box Q T Q cA nofun fun ba=>Dv.box Q T Q cA nofun fun bc=>go 1<|wd mX 13 0<|gl 4 [1,0]<|el H fun ta haa H=>cl Q (cL 129) Q (cD.c haa)<|gl 4 [1,0]<|el H fun tc hac H=>cl Q (cL 65) Q (aD.c hac)<|Dv.lit (bz .i64) ([ta,tc]:List Int) (css:=[[vI ta],[vI tc]]) Q T rP U3 c3 z3 Q dc dc Q ⟨(cells_one (ah Q)),⟨(cells_one (ah Q)),T⟩⟩ Q Q Q<|el H fun te had H=>cl Q (cL 128) Q (bG.c had)<|gq 1 ?_
 cases H.out; exact ek 2
theorem heap_Heap_down.c {p0_:OV} (h:heap_Heap_down.f k a0 a1=some r):Tr prog 173 [eq p0_.1,vI a1] [aQ.O p0_ a0] (γ:=Unit) (fun _=>True) (fun g=>kZ []) (fun g=>[aQ.O p0_ r]):=by
 refine tf func173 h fun R0 F H=>?_
 refine wr 9 384<|go 1<|Dv.qw aQ.nn Q T Q (aa 0 Q)<|vg (aQ.jf 0 Q) fun ga haa=>?_
 refine fp haa Q T Q ir<|gl 2 [0]<|gr H fun gb H=>?_
 have hac:a1.toNat<a0.fl.length:=bq gb
 refine Dv.jQ Q T Q (aa 1 Q) Q oF nF nZ gb.1 gb.2<|Dv.pT (j:=a1.toNat) (f:=0) Q T Q (aa 1 Q) hac nF Q nZ (Nat.le_of_ble_eq_true Q)<|al Q T Fu nofun fun ba=>sy 0 ?_
 refine .fin<|WP.jh H id (fun pa=>[(0,eq p0_.1),(1,vI pa.1),(4,dR ba)]) (fun pa=>[aC ba 299 (dq.enc (a0.fl.getD a1.toNat default)),aQ.O p0_ pa.2.2.2.2]++F) (fun pa H=>?_) (fun H=>?_)
 ·
  refine rg 4 8<|gl 3 [0]<|el H fun ta had H=>cx 2 [1,0] (cL 172) (dB.c had (p0_:=p0_)) nofun fun _ _=>?_
  refine .fin ?_
  obtain rfl:=aU.out H
  exact re Q () 2 [1,0] 1 .nil
 refine WP.block<|wg (aQ.shut (p:=p0_) (m:=a0) (ga.1,ga.2.1,ga.2.2) haa (pm 4 [1,2,3,0])) fun _ _=>?_
 refine ws 2 [1,0] 0 ?_
 refine lq (fun j_ (pc:Int×aQ)=>heap_Heap_down.l0 k a0 a1 j_ pc.1 pc.2) (a1,a0) H [0,4] (fun pc=>[(1,vI pc.1)]) (fun pc=>[(1,aQ.O p0_ pc.2)]) ?_
 rintro j_ ⟨xc,xd⟩ H
 rcases j_ with _ | ja
 ·
  exact (aU.no H).elim
 try dsimp only at H
 rw [heap_Heap_down.l0] at H
 refine WP.block<|so<|WP.jh H id (fun pe=>[(0,eq p0_.1),(1,vI xc),(4,dR ba),(5,vI pe.1)]) (fun pe=>[aC ba 299 (dq.enc (a0.fl.getD a1.toNat default)),aQ.O p0_ xd]++F) (fun pe H=>?_) (fun H=>?_)
 ·
  refine WP.seq<|WP.seq<|wg (aQ.jf 1 Q) fun gi hae=>?_
  refine dg mX 19 0<|go 2<|Dv.bY hae Q T Q<|fp hae Q T Q ir<|gl 1 [0]<|Dv.kl Q T Q (aa 1 Q) oF<|gp 2 ?_
  cases cc:decide ((xd.fl.length:Int)≤pe.1)
  rotate_left
  ·
   have H:=H.ct cc
   refine go 11<|WP.cond Q (fun _=>?_) nofun
   refine WP.exit ?_
   have H:=H.out
   refine ng (aQ.shut (p:=p0_) (m:=xd) (gi.1,gi.2.1,gi.2.2) hae (pm 4 [0,1,2,3])) fun _ _=>?_
   refine ns 2 [1,0] 0 ?_
   exact jn (xc,pe.1,pe.2,true,xd) H
  have H:=H.cf cc
  refine gl 2 [3]<|Dv.bY hae Q (gg Q) Q<|fp hae Q (gg Q) Q ir<|gl 2 [0]<|gr H fun gj H=>?_
  have haf:pe.1.toNat<xd.fl.length:=bq gj
  refine Dv.jQ Q (gg Q) Q (aa 1 Q) Q oF nF nZ gj.1 gj.2<|Dv.pT (j:=pe.1.toNat) (f:=0) Q (gg Q) Q (aa 1 Q) haf nF Q nZ (Nat.le_of_ble_eq_true Q)<|el H fun tc hag H=>Dv.call Q (gg Q) (cL 235) Q (heap_ahead.c hag)<|go 2<|ce H ?_ ?_ <;> intro H
  ·
   refine WP.exit ?_
   have H:=H.out
   refine ng (aQ.shut (p:=p0_) (m:=xd) (gi.1,gi.2.1,gi.2.2) hae (pm 4 [0,1,2,3])) fun _ _=>?_
   refine ns 2 [1,0] 0 ?_
   exact jn (xc,pe.1,pe.2,decide (tc<0),xd) H
  refine WP.skip<|wr 10 512<|go 3<|Dv.bY hae Q T Q<|fp hae Q T Q ir<|gl 2 [0]<|gr H fun gk H=>?_
  have hah:pe.1.toNat<xd.fl.length:=bq gk
  refine Dv.jQ Q T Q (aa 1 Q) Q oF nF nZ gk.1 gk.2<|Dv.pT (j:=pe.1.toNat) (f:=0) Q T Q (aa 1 Q) hah nF Q nZ (Nat.le_of_ble_eq_true Q)<|vg (aQ.shut (p:=p0_) (m:=xd) (gi.1,gi.2.1,gi.2.2) hae (pm 4 [0,1,2,3])) fun _ _=>?_
  refine el H fun te hai H=>cx 2 [0,1] (cL 172) (dB.c hai (p0_:=p0_)) nofun fun _ _=>?_
  refine .fin<|rg 2 0<|go 2<|ns 2 [1,0] 0 ?_
  exact bk ja (pe.1,te) H
 refine WP.seq<|wg (aQ.jf 1 Q) fun gm haj=>?_
 refine dg mX 27 0<|go 3<|Dv.bY haj Q T Q<|fp haj Q T Q ir<|gl 1 [0]<|Dv.kl Q T Q (aa 1 Q) oF<|gp 2 ?_
 cases cg:decide ((av ((av ((av (2*xc))+1))+1))<(xd.fl.length:Int))
 ·
  have H:=H.cf cg
  refine go 18<|WP.cond Q nofun (fun _=>?_)
  refine WP.skip ?_
  have H:=H.out
  refine ng (aQ.shut (p:=p0_) (m:=xd) (gm.1,gm.2.1,gm.2.2) haj (pm 4 [0,1,2,3])) fun _ _=>?_
  refine ns 2 [1,0] 0 ?_
  exact jn (av ((av (2*xc))+1),false) H
 have H:=H.ct cg
 refine go 1<|Dv.bY haj Q (gg Q) Q<|fp haj Q (gg Q) Q ir<|gl 3 [0]<|gr H fun gn H=>?_
 have hak:(av ((av ((av (2*xc))+1))+1)).toNat<xd.fl.length:=bq gn
 refine Dv.jQ Q (gg Q) Q (aa 1 Q) Q oF nF nZ gn.1 gn.2<|Dv.pT (j:=((av ((av ((av (2*xc))+1))+1)).toNat)) (f:=0) Q (gg Q) Q (aa 1 Q) hak nF Q nZ (Nat.le_of_ble_eq_true Q)<|go 1<|Dv.bY haj Q (gg Q) Q<|fp haj Q (gg Q) Q ir<|gl 2 [0]<|gr H fun gu H=>?_
 have ham:(av ((av (2*xc))+1)).toNat<xd.fl.length:=bq gu
 refine Dv.jQ Q (gg Q) Q (aa 1 Q) Q oF nF nZ gu.1 gu.2<|Dv.pT (j:=((av ((av (2*xc))+1)).toNat)) (f:=0) Q (gg Q) Q (aa 1 Q) ham nF Q nZ (Nat.le_of_ble_eq_true Q)<|el H fun tg han H=>Dv.call Q (gg Q) (cL 235) Q (heap_ahead.c han)<|go 2<|cf H ?_ ?_ <;> intro H
 ·
  refine WP.skip ?_
  have H:=H.out
  refine ng (aQ.shut (p:=p0_) (m:=xd) (gm.1,gm.2.1,gm.2.2) haj (pm 4 [0,1,2,3])) fun _ _=>?_
  refine ns 2 [1,0] 0 ?_
  exact jn (av ((av (2*xc))+1),decide (tg<0)) H
 refine rg 3 0<|gq 3 ?_
 have H:=H.out
 refine ng (aQ.shut (p:=p0_) (m:=xd) (gm.1,gm.2.1,gm.2.2) haj (pm 4 [0,1,2,3])) fun _ _=>?_
 refine ns 2 [1,0] 0 ?_
 exact jn (av ((av ((av (2*xc))+1))+1),decide (tg<0)) H
theorem cY.c {p0_:OV} (h:cY.f k a0 a1=some r):Tr prog 174 [eq p0_.1,vI a1] [aQ.O p0_ a0] (γ:=Unit) (fun _=>True) (fun g=>kZ []) (fun g=>[aQ.O p0_ r]):=by
 refine tf func174 h fun R0 F H=>?_
 refine wr 9 384<|go 1<|Dv.qw aQ.nn Q T Q (aa 0 Q)<|vg (aQ.jf 0 Q) fun ga haa=>?_
 refine fp haa Q T Q ir<|gl 2 [0]<|gr H fun gb H=>?_
 have hac:a1.toNat<a0.fl.length:=bq gb
 refine Dv.jQ Q T Q (aa 1 Q) Q oF nF nZ gb.1 gb.2<|Dv.pT (j:=a1.toNat) (f:=0) Q T Q (aa 1 Q) hac nF Q nZ (Nat.le_of_ble_eq_true Q)<|al Q T Fu nofun fun ba=>sy 0 ?_
 refine .fin<|WP.jh H id (fun pa=>[(0,eq p0_.1),(1,vI pa.1),(4,dR ba)]) (fun pa=>[aC ba 299 (dq.enc (a0.fl.getD a1.toNat default)),aQ.O p0_ pa.2.2]++F) (fun pa H=>?_) (fun H=>?_)
 ·
  refine rg 4 8<|gl 3 [0]<|el H fun ta had H=>cx 2 [1,0] (cL 172) (dB.c had (p0_:=p0_)) nofun fun _ _=>?_
  refine .fin ?_
  obtain rfl:=aU.out H
  exact re Q () 2 [1,0] 1 .nil
 refine WP.block<|wg (aQ.shut (p:=p0_) (m:=a0) (ga.1,ga.2.1,ga.2.2) haa (pm 4 [1,2,3,0])) fun _ _=>?_
 refine ws 2 [1,0] 0 ?_
 refine lq (fun j_ (pc:Int×aQ)=>cY.l0 k a0 a1 j_ pc.1 pc.2) (a1,a0) H [0,4] (fun pc=>[(1,vI pc.1)]) (fun pc=>[(1,aQ.O p0_ pc.2)]) ?_
 rintro j_ ⟨xc,xd⟩ H
 rcases j_ with _ | ja
 ·
  exact (aU.no H).elim
 try dsimp only at H
 rw [cY.l0] at H
 refine WP.seq<|WP.seq<|wg (aQ.jf 1 Q) fun gi hae=>?_
 refine dg mX 16 0<|gp 3 ?_
 cases cc:decide (0<xc)
 ·
  have H:=H.cf cc
  refine go 13<|WP.cond Q nofun (fun _=>?_)
  refine WP.exit ?_
  have H:=H.out
  refine ng (aQ.shut (p:=p0_) (m:=xd) (gi.1,gi.2.1,gi.2.2) hae (pm 4 [0,1,2,3])) fun _ _=>?_
  refine ns 2 [1,0] 0 ?_
  exact jn (xc,false,xd) H
 have H:=H.ct cc
 refine gl 2 [3]<|Dv.bY hae Q (gg Q) Q<|fp hae Q (gg Q) Q ir<|gl 3 [0]<|bng Q Q Q Q (oa dc)<|gr H fun gj H=>?_
 have haf:(av ((av (xc-1)).tdiv 2)).toNat<xd.fl.length:=bq gj
 refine Dv.jQ Q (gg Q) Q (aa 1 Q) Q oF nF nZ gj.1 gj.2<|Dv.pT (j:=((av ((av (xc-1)).tdiv 2)).toNat)) (f:=0) Q (gg Q) Q (aa 1 Q) haf nF Q nZ (Nat.le_of_ble_eq_true Q)<|el H fun tc hag H=>Dv.call Q (gg Q) (cL 235) Q (heap_ahead.c hag)<|go 2<|cf H ?_ ?_ <;> intro H
 ·
  refine WP.exit ?_
  have H:=H.out
  refine ng (aQ.shut (p:=p0_) (m:=xd) (gi.1,gi.2.1,gi.2.2) hae (pm 4 [0,1,2,3])) fun _ _=>?_
  refine ns 2 [1,0] 0 ?_
  exact jn (xc,decide (tc<0),xd) H
 refine WP.skip<|WP.block<|wr 12 2048<|go 3<|Dv.bY hae Q T Q<|fp hae Q T Q ir<|gl 3 [0]<|ot Q Q Q (oa dc)<|gr H fun gk H=>?_
 have hah:(av ((av (xc-1)).tdiv 2)).toNat<xd.fl.length:=bq gk
 refine Dv.jQ Q T Q (aa 1 Q) Q oF nF nZ gk.1 gk.2<|Dv.pT (j:=((av ((av (xc-1)).tdiv 2)).toNat)) (f:=0) Q T Q (aa 1 Q) hah nF Q nZ (Nat.le_of_ble_eq_true Q)<|vg (aQ.shut (p:=p0_) (m:=xd) (gi.1,gi.2.1,gi.2.2) hae (pm 4 [0,1,2,3])) fun _ _=>?_
 refine el H fun te hai H=>cx 2 [0,1] (cL 172) (dB.c hai (p0_:=p0_)) nofun fun _ _=>?_
 refine .fin<|rg 4 0<|go 2<|ot Q Q Q (oa dc)<|go 1<|ns 2 [1,0] 0 ?_
 exact bk ja (av ((av (xc-1)).tdiv 2),te) H
theorem du.c {p0_:OV} (h:du.f k a0 a1=some r):Tr prog 109 [eq p0_.1,vS a1] [aQ.O p0_ a0] (γ:=Unit) (fun _=>True) (fun g=>vB r.1) (fun g=>[aQ.O p0_ r.2]):=by
 refine tf func109 h fun R0 F H=>?_
 refine so<|wr 11 0<|go 1<|Dv.qw aQ.nn Q T Q (aa 0 Q)<|vg (aQ.jf 0 Q) fun ga haa=>?_
 refine fp haa Q T Q ux<|gl 2 [0]<|Dv.mlk 0 Q T Q (aa 2 Q) Q ug (dU U9) z3 (fun _=>Q)<|go 1<|dV Q T Q Q<|dV Q T Q Q<|go 2<|WP.seq<|so<|ce H ?_ ?_ <;> intro H
 ·
  refine so<|wg (aQ.shut (p:=p0_) (m:=a0) (ga.1,ga.2.1,ga.2.2) haa (pm 3 [0,1,2])) fun _ _=>?_
  cases H.out; exact et () 1 [0] 0
 refine WP.skip<|wr 6 32<|go 1<|Dv.bY haa Q T Q<|fp haa Q T Q ux<|gl 2 [0]<|Dv.mdl (jj:=2) Q T Q Q Q ug (dU U9) nofun<|.fin<|wr 7 0<|go 1<|Dv.bY haa Q T Q<|fp haa Q T Q ir<|gl 1 [0]<|Dv.kl Q T Q (aa 1 Q) oF<|go 2<|wr 9 384<|go 1<|Dv.bY haa Q T Q<|fp haa Q T Q ir<|gl 2 [0]<|gr H fun gb H=>?_
 have hac:(av ((a0.fl.length:Int)-1)).toNat<a0.fl.length:=bq gb
 refine Dv.jQ Q T Q (aa 1 Q) Q oF nF nZ gb.1 gb.2<|Dv.pT (j:=((av ((a0.fl.length:Int)-1)).toNat)) (f:=0) Q T Q (aa 1 Q) hac nF Q nZ (Nat.le_of_ble_eq_true Q)<|al Q T Fu nofun fun ba=>sy 0 ?_
 refine .fin<|wr 10 576<|go 2<|Dv.bY haa Q T Q<|fp haa Q T Q ir<|gl 2 [1]<|gr H fun gi H=>Dv.slo (jj:=2) Q T Q Q oF nF nZ dK (eY Q gi.1) (.inl Q) gi.2.1 gi.2.2 nofun (fun va=>?_)
 refine Dv.bY haa Q T Q<|fp haa Q T Q ir<|sx 1 Q T Q Q (cells_one bH) JW Q Q Q nofun ?_
 refine .fin<|WP.seq<|so<|cf H ?_ ?_ <;> intro H
 ·
  refine WP.skip<|so<|wg (aQ.shut (p:=p0_) (m:=(⟨(a0.fl.take ((av ((a0.fl.length:Int)-1)).toNat)).drop 0,l7 a0.iU a1⟩:aQ)) (ga.1,va,ga.2.2) haa (pm 4 [1,2,3,0])) fun _ _=>?_
  cases H.out; exact et () 2 [1,0] 1
 refine wr 4 8<|gl 3 [0]<|vg (aQ.shut (p:=p0_) (m:=(⟨(a0.fl.take ((av ((a0.fl.length:Int)-1)).toNat)).drop 0,l7 a0.iU a1⟩:aQ)) (ga.1,va,ga.2.2) haa (pm 4 [1,2,3,0])) fun _ _=>?_
 refine el H fun ta had H=>cx 2 [0,1] (cL 172) (dB.c had (p0_:=p0_)) nofun fun _ _=>?_
 refine .fin<|wr 3 4<|go 2<|el H fun tc hae H=>cx 2 [0,1] (cL 173) (heap_Heap_down.c hae (p0_:=p0_)) nofun fun _ _=>?_
 refine .fin<|wg (aQ.jf 0 Q) fun gj haf=>?_
 refine dg mX 9 256<|go 2<|Dv.bY haf Q T Q<|fp haf Q T Q ux<|gl 3 [0,3]<|Dv.E8 0 Q T Q (aa 2 Q) Q ug (dU U9) z3 (fun _=>Q)<|el H fun te hag H=>cx 4 [0,1,2,3] (cL 174) (Tr.pre (pre':=[aC gj.1 261 [eq gj.2.1.1,eq gj.2.2.1],own dq.K gj.2.1.1 tc.fl,mp Value.string (fun x:Int=>vI x) gj.2.2.1 tc.iU]) (cY.c hag (p0_:=p0_)) (fun F R w=>aQ.shut (p:=p0_) (m:=tc) (r:=F) (gj.1,gj.2.1,gj.2.2) haf (List.Perm.refl _) R w)) pC fun _ _=>?_
 refine .fin<|sp ?_
 cases H.out; exact et () 2 [1,0] 1
theorem eU.c {p0_:OV} (h:eU.f k a0 a1 a2=some r):Tr prog 110 [eq p0_.1,vI a1,vS a2] [aQ.O p0_ a0] (γ:=Unit) (fun _=>True) (fun g=>kZ []) (fun g=>[aQ.O p0_ r]):=by
 refine tf func110 h fun R0 F H=>?_
 refine wr 3 4<|go 2<|el H fun ta haa H=>cx 1 [0] (cL 109) (du.c haa (p0_:=p0_)) nofun fun _ _=>?_
 refine .fin<|wr 13 4608<|go 2<|Dv.qw aQ.nn Q T Q (aa 0 Q)<|vg (aQ.jf 0 Q) fun ga hac=>?_
 refine fp hac Q T Q ir<|gl 3 [0]<|Dv.kJ (qs:=[vI a1,vS a2]) (css:=[[vI a1],[vS a2]]) Q T nF pl299 KP Q ⟨(cells_one (ah Q)),⟨(cells_one (ah Q)),T⟩⟩ Q Q<|Dv.lit dq.K ([(⟨a1,a2⟩:dq)]:List dq) (css:=[[vI a1,vS a2]]) Q T oF nF nZ KP Q dc dc Q ⟨(aS (ai (ah Q) (ai (ah Q) bO))),T⟩ Q Q Q<|gr H fun gb H=>ap dq.K 1 ([(⟨a1,a2⟩:dq)]:List dq) bF oF (.inr ⟨_,oF⟩) K7 gb nofun fun va=>?_
 refine Dv.bY hac Q T Q<|fp hac Q T Q ir<|sx 0 Q T Q Q (cells_one bH) JW Q Q Q nofun ?_
 refine .fin<|rg 8 128<|go 2<|Dv.bY hac Q T Q<|fp hac Q T Q ir<|gl 1 [0]<|Dv.kl Q T Q (aa 1 Q) oF<|go 1<|vg (aQ.shut (p:=p0_) (m:=(⟨ta.2.fl++([(⟨a1,a2⟩:dq)]:List dq),ta.2.iU⟩:aQ)) (ga.1,va,ga.2.2) hac (pm 3 [0,1,2])) fun _ _=>?_
 refine el H fun tc had H=>cx 1 [0] (cL 174) (cY.c had (p0_:=p0_)) nofun fun _ _=>?_
 refine .fin ?_
 obtain rfl:=aU.out H
 exact re Q () 1 [0] 0 .nil
theorem jJ.c (h:jJ.f a0=some r):Pt prog 111 [agg (ak.enc a0)] (vI r):=by
 refine pf func111 h fun R0 F H=>?_
 refine wr 2 1<|Dv.box Q T Q cA nofun fun ba=>go 1<|spj [0,0] ?_
 cases H.out; exact ek 1
theorem fE.c {p0_:OV} (h:fE.f k a0 a1=some r):Tr prog 43 [eq p0_.1,agg (ak.enc a1)] [bS.O p0_ a0] (γ:=Unit) (fun _=>True) (fun g=>kZ [vB r.1,vI r.2.1]) (fun g=>[bS.O p0_ r.2.2]):=by
 refine tf func43 h fun R0 F H=>?_
 refine wr 3 1<|Dv.box Q T Q cA nofun fun ba=>go 2<|WP.seq<|wr 8 0<|kX 4 [0] ?_
 cases cc:(a1.aH != 2)
 rotate_left
 ·
  have H:=H.ct cc
  refine go 4<|WP.cond Q (fun _=>?_) nofun
  refine sp ?_
  cases H.out; exact et () 2 [0,1] 1
 have H:=H.cf cc
 refine gl 1 [0]<|el H fun ta haa H=>Dv.call Q (gg Q) (cL 105) Q (my.c haa)<|go 2<|ce H ?_ ?_ <;> intro H
 ·
  refine sp ?_
  cases H.out; exact et () 2 [0,1] 1
 refine WP.skip<|wr 8 0<|gl 2 [0]<|vg (bS.jf 1 Q) fun ga hac=>?_
 refine el H fun tc had H=>pN 4 [0,1,2,3] (cL 106) (Tr.kj (dW.c had (b0_:=ga.1) (v0_0:=ga.2.1) (v0_1:=ga.2.2)) (.cons (iV hac) (.cons bQ .nil))) ?_
 refine go 1<|dV Q T Q Q<|dV Q T Q Q<|go 2<|WP.sT H id (fun pa=>[(0,eq p0_.1),(3,dR ba)]) (fun pa=>[aC ba 52 (ak.enc a1),bS.O p0_ pa.2.2.2]++F) (fun pa H=>?_) (fun H=>?_)
 ·
  refine wr 7 0<|gl 2 [0]<|gr H fun gb H=>ot Q Q Q (iQ gb)<|gl 2 [0]<|gr H fun gi H=>ot Q Q Q (iQ gi)<|go 1<|wr 6 32<|go 1<|Dv.qw bS.nn Q T Q (aa 1 Q)<|vg (bS.jf 1 Q) fun gj hae=>?_
  refine fp hae Q T Q Di<|gl 2 [0]<|el H fun te haf H=>cx 4 [2,0,1,3] (cL 109) (du.c haf (p0_:=gj.2.2)) nofun fun _ _=>?_
  refine .fin<|WP.seq<|sN [3]<|cf H ?_ ?_ <;> intro H
  ·
   refine WP.skip<|so<|wg (bS.shut (p:=p0_) (m:=(⟨pa.2.2.2.fl,te.2⟩:bS)) (gj.1,gj.2.1,gj.2.2) hae (pm 4 [1,2,0,3])) fun _ _=>?_
   cases H.out; exact et () 2 [1,0] 1
  refine dg mX 8 128<|go 1<|Dv.bY hae Q T Q<|fp hae Q T Q Di<|gl 2 [1,3]<|el H fun tg hag H=>cl Q (cL 111) Q (jJ.c hag)<|go 1<|el H fun tj hah H=>cx 4 [0,1,2,3] (cL 110) (eU.c hah (p0_:=gj.2.2)) pC fun _ _=>?_
  refine .fin<|so<|wg (bS.shut (p:=p0_) (m:=(⟨pa.2.2.2.fl,tj⟩:bS)) (gj.1,gj.2.1,gj.2.2) hae (pm 4 [1,2,0,3])) fun _ _=>?_
  cases H.out; exact et () 2 [1,0] 1
 refine WP.block<|wd mX 25 0<|gp 2 ?_
 cases cg:tc.2
 ·
  have H:=H.cf cg
  refine go 23<|WP.cond Q nofun (fun _=>?_)
  refine so<|WP.cond Q nofun (fun _=>?_)
  refine dg mX 12 2304<|go 2<|Dv.bY hac Q T Q<|fp hac Q T Q su<|gl 3 [0,3]<|Dv.lit ak.K ([a1]:List ak) (css:=[ak.enc a1]) Q T eW gN iy vM Q dc dc Q ⟨(aS (ak.K.one _)),T⟩ Q Q Q<|el H fun tm hai H=>Dv.yq (pre:=[own ak.K ga.2.1.1 a0.fl]) (F:=[aC ga.1 190 [eq ga.2.1.1,eq ga.2.2.1],aQ.O ga.2.2 a0.gV,aC ba 52 (ak.enc a1)]++F) (fun gk:OV=>[own ak.K gk.1 tm,aC ga.1 190 [eq ga.2.1.1,eq ga.2.2.1],aQ.O ga.2.2 a0.gV,aC ba 52 (ak.enc a1)]++F) Q T (cL 108) Q (cZ.c hai (p0_:=ga.2.1)) (lK (L:=[aC ga.1 190 [eq ga.2.1.1,eq ga.2.2.1],own ak.K ga.2.1.1 a0.fl,aQ.O ga.2.2 a0.gV,aC ba 52 (ak.enc a1)]) (F:=F) [1,0,2,3] Q Q Q) Q pE (fun gk _=>?_)
  refine Dv.bY hac Q T Q<|fp hac Q T Q su<|sx 1 Q T Q Q (cells_one bH) rV Q Q Q pB ?_
  refine .fin ?_
  have H:=H.out
  refine ng (bS.shut (p:=p0_) (m:=(⟨tm,a0.gV⟩:bS)) (ga.1,gk,ga.2.2) hac (pm 4 [1,0,2,3])) fun _ _=>?_
  refine ns 2 [1,0] 0 ?_
  exact jn (false,false,false,(⟨tm,a0.gV⟩:bS)) H
 have H:=H.ct cg
 refine go 1<|Dv.bY hac Q (gg Q) Q<|fp hac Q (gg Q) Q su<|gl 2 [0]<|gr H fun gm H=>?_
 have haj:tc.1.toNat<a0.fl.length:=bq gm
 refine Dv.jQ Q (gg Q) Q (aa 1 Q) Q eW gN iy gm.1 gm.2<|Dv.pT (j:=tc.1.toNat) (f:=0) Q (gg Q) Q (aa 1 Q) haj gN Q iy (Nat.le_of_ble_eq_true Q)<|gl 1 [3]<|Dv.eqs [.int .i64 ((a0.fl.getD tc.1.toNat default).aH),.string ((a0.fl.getD tc.1.toNat default).ab),.string ((a0.fl.getD tc.1.toNat default).aj),.string ((a0.fl.getD tc.1.toNat default).bI),.string ((a0.fl.getD tc.1.toNat default).ae),.bool ((a0.fl.getD tc.1.toNat default).aq),.bool ((a0.fl.getD tc.1.toNat default).kb),.int .i64 ((a0.fl.getD tc.1.toNat default).bZ),.int .i64 ((a0.fl.getD tc.1.toNat default).aX),.int .i64 ((a0.fl.getD tc.1.toNat default).aV),.int .i64 ((a0.fl.getD tc.1.toNat default).bf)] [.int .i64 a1.aH,.string a1.ab,.string a1.aj,.string a1.bI,.string a1.ae,.bool a1.aq,.bool a1.kb,.int .i64 a1.bZ,.int .i64 a1.aX,.int .i64 a1.aV,.int .i64 a1.bf] Q (gg Q) Q Q Q Q JN (fun _=>mI 2 dc (fun _=>DJ (a0.fl.getD tc.1.toNat default) a1))<|gp 1 ?_
 cases ci:decide (a0.fl.getD tc.1.toNat default=a1)
 rotate_left
 ·
  have H:=H.ct ci
  refine go 13<|WP.cond Q (fun _=>?_) nofun
  refine so<|wg (bS.shut (p:=p0_) (m:=a0) (ga.1,ga.2.1,ga.2.2) hac (pm 4 [0,1,2,3])) fun _ _=>?_
  have H:=H.eR
  cases H.out; exact et () 2 [1,0] 1
 have H:=H.cf ci
 refine gl 2 [3]<|Dv.bY hac Q (gg Q) Q<|fp hac Q (gg Q) Q su<|gl 2 [0]<|gr H fun gn H=>?_
 have hak:tc.1.toNat<a0.fl.length:=bq gn
 refine Dv.jQ Q (gg Q) Q (aa 1 Q) Q eW gN iy gn.1 gn.2<|Dv.pT (j:=tc.1.toNat) (f:=0) Q (gg Q) Q (aa 1 Q) hak gN Q iy (Nat.le_of_ble_eq_true Q)<|el H fun tn ham H=>Dv.call Q (gg Q) (cL 107) Q (jY.c ham)<|go 4<|ce H ?_ ?_ <;> intro H
 ·
  refine so<|wg (bS.shut (p:=p0_) (m:=a0) (ga.1,ga.2.1,ga.2.2) hac (pm 4 [0,1,2,3])) fun _ _=>?_
  have H:=H.eR
  cases H.out; exact et () 2 [1,0] 1
 refine so<|WP.cond Q (fun _=>?_) nofun
 refine dg mX 8 128<|go 1<|Dv.bY hac Q T Q<|fp hac Q T Q su<|gl 3 [0,3]<|gr H fun gu H=>?_
 have han:tc.1.toNat<a0.fl.length:=bq gu
 refine Dv.jQ Q T Q (aa 1 Q) Q eW gN iy gu.1 gu.2<|Dv.Jg (j:=tc.1.toNat) (f:=0) (jj:=1) a1 Q T Q Q (aS (ak.K.one _)) gN iy Q Q han (Nat.le_of_ble_eq_true Q) Q (fun _=>fG kr)<|.fin ?_
 have H:=H.out
 refine ng (bS.shut (p:=p0_) (m:=(⟨a0.fl.set tc.1.toNat a1,a0.gV⟩:bS)) (ga.1,ga.2.1,ga.2.2) hac (pm 4 [0,1,2,3])) fun _ _=>?_
 refine ns 2 [1,0] 0 ?_
 exact jn (true,!tn,true,(⟨a0.fl.set tc.1.toNat a1,a0.gV⟩:bS)) H
theorem jF.c (h:jF.f a0=some r):Pt prog 44 [vS a0] (vS r):=by
 refine pf func44 h fun R0 F H=>?_
 refine so<|wr 3 0<|go 1<|gr H fun ga H=>ot Q Q Q (iQ ga)<|gq 1 ?_
 cases H.out; exact ek 0
theorem de.c (h:de.f k a0 a1=some r):Pt prog 45 [agg (lF.enc a0),agg (ak.enc a1)] (kZ [agg (lF.enc r.1),vB r.2.1,vI r.2.2]):=by
 refine pf func45 h fun R0 F H=>?_
 refine wr 5 7<|Dv.box Q T Q cA nofun fun ba=>Dv.box Q T Q cA nofun fun bc=>al Q T KR nofun fun bd=>go 2<|wr 3 0<|gl 1 [1]<|el H fun ta haa H=>cl Q (cL 103) Q (mD.c haa)<|go 1<|WP.seq<|wr 7 0<|kX 4 [1] ?_
 cases cc:(a1.aH != 3)
 rotate_left
 ·
  have H:=H.ct cc
  refine go 3<|WP.cond Q (fun _=>?_) nofun
  refine wr 4 2<|gl 1 [2]<|sy 0 ?_
  refine gq 2 ?_
  cases H.out; exact r3 i2 Q (.cons (au Q U40 Q c40 (aa 0 Q) Q) (.cons (aB Q) (.cons (aB Q) .nil)))
 have H:=H.cf cc
 refine go 3<|ce H ?_ ?_ <;> intro H
 ·
  refine wr 4 2<|gl 1 [2]<|sy 0 ?_
  refine gq 2 ?_
  cases H.out; exact r3 i2 Q (.cons (au Q U40 Q c40 (aa 0 Q) Q) (.cons (aB Q) (.cons (aB Q) .nil)))
 refine WP.skip<|wr 1 1<|al Q T KR nofun fun be=>.fin<|so<|WP.sT H (fun qh:(Bool×Int×Bool×(List ak)×(List Int))×OV×OV=>qh.1) (fun qh=>[(3,dR bc),(4,dR bd),(8,dR be),(9,vB qh.1.1)]) (fun qh=>[aC be 40 [eq qh.2.1.1,eq qh.2.2.1],aC bd 40 [dH,dH],aC bc 52 (ak.enc a1),aC ba 40 (lF.enc a0),own ak.K qh.2.1.1 qh.1.2.2.2.1,own (bz .i64) qh.2.2.1 qh.1.2.2.2.2]++F) (fun qh H=>?_) (fun H=>?_)
 ·
  obtain ⟨pa,va,vb⟩:=qh
  refine WP.seq<|so<|cf H ?_ ?_ <;> intro H
  ·
   refine WP.skip<|wr 4 2<|gl 1 [0]<|sy 1 ?_
   refine go 2<|fz 4 [4,5,6] [1,1] ?_
   refine fz 4 [4,5,6] [1,1] ?_
   cases H.out; exact r4 i2 Q (.cons (au Q U40 Q c40 (aa 1 Q) Q) (.cons (aB Q) (.cons (aB Q) .nil)))
  refine wr 7 80<|gl 3 [0,2]<|Dv.lit ak.K ([a1]:List ak) (css:=[ak.enc a1]) Q T eW gN iy vM Q dc dc Q ⟨(aS (ak.K.one _)),T⟩ Q Q Q<|gr H fun ga H=>ap ak.K 4 ([a1]:List ak) bF eW (.inr ⟨_,eW⟩) nS ga nofun fun vd=>?_
  refine go 1<|sx 0 Q T Q Q (cells_one bH) rV Q Q Q nofun ?_
  refine .fin<|rg 6 40<|gl 2 [0]<|Dv.lit (bz .i64) ([(-1)]:List Int) (css:=[[vI (-1)]]) Q T rP U3 c3 z3 Q dc dc Q ⟨(cells_one (ah Q)),T⟩ Q Q Q<|gr H fun gb H=>ap (bz .i64) 5 ([(-1)]:List Int) bF rP (.inr ⟨_,rP⟩) Ib gb nofun fun ve=>?_
  refine go 1<|sx 0 Q T Q Q (cells_one bH) Lf Q Q Q nofun ?_
  refine .fin<|wr 4 2<|gl 1 [0]<|sy 1 ?_
  refine go 2<|fz 4 [4,5,6] [1,1] ?_
  refine fz 4 [4,5,6] [1,1] ?_
  cases H.out; exact r4 i2 Q (.cons (au Q U40 Q c40 (aa 1 Q) Q) (.cons (aB Q) (.cons (aB Q) .nil)))
 refine so<|WP.block<|wg (dw ak.K none) fun _ _=>?_
 refine wg (dw (bz .i64) none) fun _ _=>?_
 refine ws 6 [2,3,4,5,1,0] 0 ?_
 refine lq (fun j_ (pc:Bool×Int×(List ak)×(List Int)×OV×OV)=>de.l0 k a0 a1 j_ pc.1 pc.2.1 pc.2.2.1 pc.2.2.2.1) (false,0,([]:List ak),([]:List Int),jS,DE) H [2,3,4,8] (fun pc=>[(9,vB pc.1),(10,vI pc.2.1)]) (fun pc=>[(0,aC be 40 [eq pc.2.2.2.2.1.1,eq pc.2.2.2.2.2.1]),(4,own ak.K pc.2.2.2.2.1.1 pc.2.2.1),(5,own (bz .i64) pc.2.2.2.2.2.1 pc.2.2.2.1)]) ?_
 rintro j_ ⟨xc,xd,xe,xf,vh,vi⟩ H
 rcases j_ with _ | ja
 ·
  exact (aU.no H).elim
 try dsimp only at H
 rw [de.l0] at H
 refine WP.seq<|wr 5 0<|gl 3 [3]<|Dv.fj Q T Q eW<|go 1<|cf H ?_ ?_ <;> intro H
 ·
  refine WP.exit ?_
  have H:=H.out
  exact jn ((xc,xd,decide (xd<(a0.fL.length:Int)),xe,xf),vh,vi) H
 refine WP.skip<|WP.seq<|WP.block<|wr 7 96<|gl 3 [3]<|gr H fun gi H=>Dv.fR Q T Q Q eW gN iy gi.1 gi.2<|iv Q T Q uZ Q<|al Q T u7 nofun fun bg=>sy 0 ?_
 refine .fin<|WP.seq<|sN [0,3]<|ce H ?_ ?_ <;> intro H
 ·
  refine WP.seq<|wr 4 0<|gl 2 [3,0]<|el H fun tc hac H=>cl Q (cL 104) Q (jy.c hac)<|go 1<|cf H ?_ ?_ <;> intro H
  ·
   refine WP.skip<|WP.exit<|rg 3 0<|go 3<|ns 7 [0,1,2,3,4,5,6] 1 ?_
   exact bk ja (xc,av (xd+1),xe,xf,vh,vi) H
  refine wr 4 2<|gl 1 [4]<|sy 2 ?_
  refine gq 2 ?_
  have H:=H.eR
  cases H.out; exact rt i2 Q () 7 [0,1,2,3,4,5,6] 7 (.cons (au Q U40 Q c40 (aa 2 Q) Q) (.cons (aB Q) (.cons (aB Q) .nil)))
 refine WP.skip<|WP.jh H (fun qi:(Bool×Bool×(List ak)×(List Int))×OV×OV=>qi.1) (fun qi=>[(2,dR ba),(3,dR bc),(4,dR bd),(8,dR be),(9,vB qi.1.1),(10,vI xd),(11,dR bg)]) (fun qi=>[aC bg 52 (ak.enc (ak.K.at a0.fL xd)),aC be 40 [eq qi.2.1.1,eq qi.2.2.1],aC bd 40 [dH,dH],aC bc 52 (ak.enc a1),aC ba 40 (lF.enc a0),own ak.K qi.2.1.1 qi.1.2.2.1,own (bz .i64) qi.2.2.1 qi.1.2.2.2]++F) (fun qi H=>?_) (fun H=>?_)
 ·
  obtain ⟨pe,vj,vk⟩:=qi
  refine wr 7 80<|gl 3 [1,0]<|Dv.lit ak.K ([ak.K.at a0.fL xd]:List ak) (css:=[ak.enc (ak.K.at a0.fL xd)]) Q T eW gN iy vM Q dc dc Q ⟨(aS (ak.K.one _)),T⟩ Q Q Q<|gr H fun gj H=>ap ak.K 5 ([ak.K.at a0.fL xd]:List ak) bF eW (.inr ⟨_,eW⟩) nS gj nofun fun vl=>?_
  refine go 1<|sx 1 Q T Q Q (cells_one bH) rV Q Q Q nofun ?_
  refine .fin<|dg mX 11 1280<|gl 5 [1,4]<|gr H fun gk H=>Dv.fR Q T Q Q rP U3 c3 gk.1 gk.2<|kI Q T Q Dj Q<|Dv.lit (bz .i64) ([(bz .i64).at a0.cH xd]:List Int) (css:=[[vI ((bz .i64).at a0.cH xd)]]) Q T rP U3 c3 z3 Q dc dc Q ⟨(cells_one (ah Q)),T⟩ Q Q Q<|gr H fun gm H=>ap (bz .i64) 6 ([(bz .i64).at a0.cH xd]:List Int) bF rP (.inr ⟨_,rP⟩) Ib gm pB fun vm=>?_
  refine go 1<|sx 1 Q T Q Q (cells_one bH) Lf Q Q Q pB ?_
  refine .fin<|rg 3 0<|go 3<|ns 7 [0,1,2,3,4,5,6] 1 ?_
  exact bk ja (pe.1,av (xd+1),pe.2.2.1++([ak.K.at a0.fL xd]:List ak),pe.2.2.2++([(bz .i64).at a0.cH xd]:List Int),vl,vm) H
 refine wr 9 0<|gp 3 ?_
 cases cg:!xc
 ·
  have H:=H.cf cg
  refine go 6<|WP.cond Q nofun (fun _=>?_)
  refine WP.skip ?_
  have H:=H.out
  exact jn ((xc,false,xe,xf),vh,vi) H
 have H:=H.ct cg
 refine gl 6 [3,0]<|cf H ?_ ?_ <;> intro H
 ·
  refine WP.skip ?_
  have H:=H.out
  exact jn ((xc,dJ a1.aj ((ak.K.at a0.fL xd).aj),xe,xf),vh,vi) H
 refine wr 7 80<|gl 3 [1,3]<|Dv.lit ak.K ([a1]:List ak) (css:=[ak.enc a1]) Q T eW gN iy vM Q dc dc Q ⟨(aS (ak.K.one _)),T⟩ Q Q Q<|gr H fun gn H=>ap ak.K 5 ([a1]:List ak) bF eW (.inr ⟨_,eW⟩) nS gn nofun fun vn=>?_
 refine go 1<|sx 1 Q T Q Q (cells_one bH) rV Q Q Q nofun ?_
 refine .fin<|wr 6 40<|gl 2 [1]<|Dv.lit (bz .i64) ([(-1)]:List Int) (css:=[[vI (-1)]]) Q T rP U3 c3 z3 Q dc dc Q ⟨(cells_one (ah Q)),T⟩ Q Q Q<|gr H fun gu H=>ap (bz .i64) 6 ([(-1)]:List Int) bF rP (.inr ⟨_,rP⟩) Ib gu nofun fun vo=>?_
 refine go 1<|sx 1 Q T Q Q (cells_one bH) Lf Q Q Q nofun ?_
 refine .fin<|rg 1 0<|gq 1 ?_
 have H:=H.out
 exact jn ((true,dJ a1.aj ((ak.K.at a0.fL xd).aj),xe++([a1]:List ak),xf++([(-1)]:List Int)),vn,vo) H
theorem ax.c (h:ax.f k a0 a1 a2=some r):Pt prog 175 [sl ak.K a0,vS a1,pS a2] (kZ [vI r.1,vB r.2]):=by
 refine pf func175 h fun R0 F H=>?_
 refine so<|wr 3 0<|go 1<|Dv.fj Q T Q eW<|go 1<|so<|sq H id [0,1,2,8] (fun pa=>[(9,vI pa.1)]) (fun _=>[]) (fun pa H=>?_) (fun H=>?_)
 ·
  refine wr 16 0<|gp 5 ?_
  cases cc:decide (pa.1<(a0.length:Int))
  ·
   have H:=H.cf cc
   refine gq 11 ?_
   cases H.out; exact ek 0
  have H:=H.ct cc
  refine go 3<|gr H fun ga H=>Dv.fR Q (gg Q) Q Q eW gN iy ga.1 ga.2<|iv Q (gg Q) Q uZ Q<|go 1<|el H fun ta haa H=>Dv.tS (ret:=vI ta) Q (gg Q) Q Q ⟨_,_,_,haa,Q,Q⟩<|gq 4 ?_
  cases H.out; exact ek 0
 refine WP.block<|ws 0 [] 0 ?_
 refine lq (fun j_ (pc:Int×Int)=>ax.l0 k a0 a1 a2 j_ pc.1 pc.2) (0,(a0.length:Int)) H [0,1,2,8] (fun pc=>[(9,vI pc.1),(10,vI pc.2)]) (fun _=>[]) ?_
 rintro j_ ⟨xc,xd⟩ H
 rcases j_ with _ | ja
 ·
  exact (aU.no H).elim
 try dsimp only at H
 rw [ax.l0] at H
 refine WP.seq<|so<|cf H ?_ ?_ <;> intro H
 ·
  refine WP.exit ?_
  have H:=H.out
  exact jn (xc,xd,decide (xc<xd)) H
 refine WP.skip<|WP.block<|wr 7 0<|go 3<|Dv.JA Q T Q U3 HU<|ot Q Q Q (CD dc)<|Dv.JA Q T Q HU U3<|go 1<|wr 8 0<|go 3<|gr H fun gb H=>Dv.fR Q T Q Q eW gN iy gb.1 gb.2<|iv Q T Q uZ Q<|go 1<|el H fun tc hac H=>Dv.tS (ret:=vI tc) Q T Q Q ⟨_,_,_,hac,Q,Q⟩<|go 1<|cf H ?_ ?_ <;> intro H
 ·
  exact rg 2 0<|go 2<|bk ja (xc,av ((IntKind.u64.wrap (av (xc+xd))).fdiv 2)) H
 exact rg 3 0<|go 3<|bk ja (av ((av ((IntKind.u64.wrap (av (xc+xd))).fdiv 2))+1),xd) H
theorem dG.c (h:dG.f a0 a1=some r):Pt prog 176 [agg (ak.enc a0),vS a1] (vI r):=by
 refine pf func176 h fun R0 F H=>?_
 refine wr 2 1<|Dv.box Q T Q cA nofun fun ba=>go 1<|wr 5 0<|gl 3 [0]<|el H fun ta haa H=>cl Q (cL 65) Q (aD.c haa)<|gq 1 ?_
 cases H.out; exact ek 1
theorem dC.c {v0_0 v0_1:OV} {b0_:Nat} (h:dC.f k a0 a1=some r):Tr prog 112 [dR b0_,vS a1] [aC b0_ 192 [eq v0_0.1,eq v0_1.1],own ak.K v0_0.1 a0.fl] (γ:=Unit) (fun _=>True) (fun g=>kZ [vI r.1,vB r.2]) (fun g=>[aC b0_ 192 [eq v0_0.1,eq v0_1.1],own ak.K v0_0.1 a0.fl]):=by
 refine tf func112 h fun R0 F H=>?_
 refine so<|wr 10 0<|gl 5 [0]<|el H fun ta haa H=>pN (B:=[own ak.K v0_0.1 a0.fl]) 2 [1,0] (cL 175) (Pt.xD _ (Pt.kj (ax.c haa) (.cons bQ (.cons bQ (.cons (yv (cL 176) (by rintro _ _ ⟨a0_,a1_,r_,h_,rfl,rfl⟩; exact dG.c h_)) .nil)))) (.cons (pI (aa 0 Q)) (.cons rn (.cons rn .nil))) (A6 (nY lT (nY lT tP)))) ?_
 refine dV Q T Q Q<|dV Q T Q Q<|gq 2 ?_
 cases H.out; exact et () 2 [0,1] 0
theorem dX.c (h:dX.f a0 a1=some r):Pt prog 125 [agg (ak.enc a0),vI a1] (vI r):=by
 refine pf func125 h fun R0 F H=>?_
 refine wr 2 1<|Dv.box Q T Q cA nofun fun ba=>go 1<|WP.seq<|sN [0]<|WP.block<|WP.seq<|WP.block<|WP.seq<|WP.block<|WP.seq<|WP.seq<|so<|cf H ?_ ?_ <;> intro H
 ·
  refine WP.skip<|so<|cf H ?_ ?_ <;> intro H
  ·
   refine WP.skip<|WP.exit<|sp ?_
   cases H.out; exact ek 1
  refine WP.exit<|WP.seq<|sN [0]<|ce H ?_ ?_ <;> intro H
  ·
   refine sp ?_
   cases H.out; exact ek 1
  refine WP.skip<|WP.exit<|sp ?_
  cases H.out; exact ek 1
 refine WP.exit<|sN [0]<|ce H ?_ ?_ <;> intro H
 ·
  refine sp ?_
  cases H.out; exact ek 1
 refine WP.skip<|WP.seq<|sN [0]<|ce H ?_ ?_ <;> intro H
 ·
  refine sp ?_
  cases H.out; exact ek 1
 refine WP.skip<|WP.exit<|sp ?_
 cases H.out; exact ek 1
theorem bK.c (h:bK.f k a0 a1=some r):Pt prog 113 [agg (ak.enc a0),vI a1] (kZ [vI r.1,vB r.2]):=by
 refine pf func113 h fun R0 F H=>?_
 refine wr 3 1<|Dv.box Q T Q cA nofun fun ba=>go 2<|sr H id [] (fun _=>[]) (fun _=>[]) (fun pa H=>?_) (fun H=>?_)
 ·
  refine sp ?_
  cases H.out; exact ek 1
 refine wr 2 0<|Dv.blda (qs:=[vI 30,vI 90]) (css:=[[vI 30],[vI 90]]) Q T U303 U3 c3 z303 Q ⟨(cells_one (ah Q)),⟨(cells_one (ah Q)),T⟩⟩ Q Q<|go 1<|WP.block<|ws 1 [0] 0 ?_
 refine lq (fun j_ (pc:Int)=>bK.l0 k a0 a1 j_ pc) 0 H [1,2,9] (fun pc=>[(10,vI pc)]) (fun _=>[]) ?_
 rintro j_ xc H
 rcases j_ with _ | ja
 ·
  exact (aU.no H).elim
 try dsimp only at H
 rw [bK.l0] at H
 refine so<|WP.seq<|cf H ?_ ?_ <;> intro H
 ·
  refine WP.exit ?_
  have H:=H.out
  exact jn (xc,decide (xc<2)) H
 refine WP.skip<|WP.seq<|WP.block<|wr 2 0<|gr H fun ga H=>Dv.ixa (Kd:=(bz .i64)) (xs:=([30,90]:List Int)) Q T Q Q Q U303 U3 Q c3 Q Q ga.1 ga.2 Q<|go 1<|sN [0]<|wd mX 13 0<|gp 4 ?_
 cases cc:decide (a1<(av (a0.aV+((bz .i64).at ([30,90]:List Int) xc))))
 ·
  have H:=H.cf cc
  refine go 9<|WP.cond Q nofun (fun _=>?_)
  exact WP.skip<|rg 2 0<|go 2<|bk ja (av (xc+1)) H
 have H:=H.ct cc
 refine gl 3 [0]<|el H fun ta haa H=>Dv.call Q (gg Q) (cL 125) Q (dX.c haa)<|gl 2 [0]<|el H fun tc hac H=>Dv.call Q (gg Q) (cL 125) Q (dX.c hac)<|go 2<|cf H ?_ ?_ <;> intro H
 ·
  exact WP.skip<|rg 2 0<|go 2<|bk ja (av (xc+1)) H
 refine sp ?_
 have H:=H.eR
 cases H.out; exact ek 1
theorem eJ.c {p0_:OV} (h:eJ.f k a0 a1=some r):Tr prog 46 [eq p0_.1,agg (ak.enc a1)] [b7.O p0_ a0] (γ:=Unit) (fun _=>True) (fun g=>kZ [vB r.1,vI r.2.1]) (fun g=>[b7.O p0_ r.2.2]):=by
 refine tf func46 h fun R0 F H=>?_
 refine wr 3 1<|Dv.box Q T Q cA nofun fun ba=>go 2<|WP.seq<|wr 8 0<|kX 4 [0] ?_
 cases cc:(a1.aH != 3)
 rotate_left
 ·
  have H:=H.ct cc
  refine go 4<|WP.cond Q (fun _=>?_) nofun
  refine sp ?_
  cases H.out; exact et () 2 [0,1] 1
 have H:=H.cf cc
 refine gl 1 [0]<|el H fun ta haa H=>Dv.call Q (gg Q) (cL 105) Q (my.c haa)<|go 2<|ce H ?_ ?_ <;> intro H
 ·
  refine sp ?_
  cases H.out; exact et () 2 [0,1] 1
 refine WP.skip<|wr 9 0<|gl 3 [0]<|vg (b7.jf 1 Q) fun ga hac=>?_
 refine el H fun tc had H=>pN 4 [0,1,2,3] (cL 112) (Tr.kj (dC.c had (b0_:=ga.1) (v0_0:=ga.2.1) (v0_1:=ga.2.2)) (.cons (iV hac) (.cons bQ .nil))) ?_
 refine go 1<|dV Q T Q Q<|dV Q T Q Q<|go 2<|WP.sT H id (fun pa=>[(0,eq p0_.1),(3,dR ba)]) (fun pa=>[aC ba 52 (ak.enc a1),b7.O p0_ pa.2.2.2]++F) (fun pa H=>?_) (fun H=>?_)
 ·
  refine WP.seq<|wg (b7.jf 1 Q) fun gb hae=>?_
  refine dg mX 7 64<|go 1<|Dv.bY hae Q T Q<|fp hae Q T Q Dh<|gl 3 [0,3]<|el H fun te haf H=>cx 4 [2,0,1,3] (cL 109) (du.c haf (p0_:=gb.2.2)) pC fun _ _=>?_
  refine .fin<|WP.seq<|wr 7 0<|gl 1 [3]<|el H fun tg hag H=>cl Q (cL 113) Q (bK.c hag)<|go 1<|dV Q T Q Q<|dV Q T Q Q<|go 2<|so<|cf H ?_ ?_ <;> intro H
  ·
   refine WP.skip<|so<|wg (b7.shut (p:=p0_) (m:=(⟨pa.2.2.2.fl,te.2⟩:b7)) (gb.1,gb.2.1,gb.2.2) hae (pm 4 [1,2,0,3])) fun _ _=>?_
   cases H.out; exact et () 2 [1,0] 1
  refine dg mX 8 128<|go 1<|Dv.bY hae Q T Q<|fp hae Q T Q Dh<|gl 4 [1,3]<|el H fun tj hah H=>cx 4 [0,1,2,3] (cL 110) (eU.c hah (p0_:=gb.2.2)) pC fun _ _=>?_
  refine .fin<|so<|wg (b7.shut (p:=p0_) (m:=(⟨pa.2.2.2.fl,tj⟩:b7)) (gb.1,gb.2.1,gb.2.2) hae (pm 4 [1,2,0,3])) fun _ _=>?_
  cases H.out; exact et () 2 [1,0] 1
 refine WP.block<|wd mX 14 0<|gp 2 ?_
 cases cg:tc.2
 ·
  have H:=H.cf cg
  refine go 12<|WP.cond Q nofun (fun _=>?_)
  refine so<|WP.cond Q nofun (fun _=>?_)
  refine dg mX 12 2304<|go 2<|Dv.bY hac Q T Q<|fp hac Q T Q ur<|gl 3 [0,3]<|Dv.lit ak.K ([a1]:List ak) (css:=[ak.enc a1]) Q T eW gN iy vM Q dc dc Q ⟨(aS (ak.K.one _)),T⟩ Q Q Q<|el H fun tm hai H=>Dv.yq (pre:=[own ak.K ga.2.1.1 a0.fl]) (F:=[aC ga.1 192 [eq ga.2.1.1,eq ga.2.2.1],aQ.O ga.2.2 a0.eV,aC ba 52 (ak.enc a1)]++F) (fun gi:OV=>[own ak.K gi.1 tm,aC ga.1 192 [eq ga.2.1.1,eq ga.2.2.1],aQ.O ga.2.2 a0.eV,aC ba 52 (ak.enc a1)]++F) Q T (cL 108) Q (cZ.c hai (p0_:=ga.2.1)) (lK (L:=[aC ga.1 192 [eq ga.2.1.1,eq ga.2.2.1],own ak.K ga.2.1.1 a0.fl,aQ.O ga.2.2 a0.eV,aC ba 52 (ak.enc a1)]) (F:=F) [1,0,2,3] Q Q Q) Q pE (fun gi _=>?_)
  refine Dv.bY hac Q T Q<|fp hac Q T Q ur<|sx 1 Q T Q Q (cells_one bH) rV Q Q Q pB ?_
  refine .fin ?_
  have H:=H.out
  refine ng (b7.shut (p:=p0_) (m:=(⟨tm,a0.eV⟩:b7)) (ga.1,gi,ga.2.2) hac (pm 4 [1,0,2,3])) fun _ _=>?_
  refine ns 2 [1,0] 0 ?_
  exact jn (false,false,false,(⟨tm,a0.eV⟩:b7)) H
 have H:=H.ct cg
 refine gl 2 [3]<|Dv.bY hac Q (gg Q) Q<|fp hac Q (gg Q) Q ur<|gl 2 [0]<|gr H fun gj H=>?_
 have haj:tc.1.toNat<a0.fl.length:=bq gj
 refine Dv.jQ Q (gg Q) Q (aa 1 Q) Q eW gN iy gj.1 gj.2<|Dv.pT (j:=tc.1.toNat) (f:=0) Q (gg Q) Q (aa 1 Q) haj gN Q iy (Nat.le_of_ble_eq_true Q)<|el H fun tn hak H=>Dv.call Q (gg Q) (cL 107) Q (jY.c hak)<|go 3<|ce H ?_ ?_ <;> intro H
 ·
  refine so<|wg (b7.shut (p:=p0_) (m:=a0) (ga.1,ga.2.1,ga.2.2) hac (pm 4 [0,1,2,3])) fun _ _=>?_
  have H:=H.eR
  cases H.out; exact et () 2 [1,0] 1
 refine so<|WP.cond Q (fun _=>?_) nofun
 refine dg mX 8 128<|go 1<|Dv.bY hac Q T Q<|fp hac Q T Q ur<|gl 3 [0,3]<|gr H fun gk H=>?_
 have ham:tc.1.toNat<a0.fl.length:=bq gk
 refine Dv.jQ Q T Q (aa 1 Q) Q eW gN iy gk.1 gk.2<|Dv.Jg (j:=tc.1.toNat) (f:=0) (jj:=1) a1 Q T Q Q (aS (ak.K.one _)) gN iy Q Q ham (Nat.le_of_ble_eq_true Q) Q (fun _=>fG kr)<|.fin ?_
 have H:=H.out
 refine ng (b7.shut (p:=p0_) (m:=(⟨a0.fl.set tc.1.toNat a1,a0.eV⟩:b7)) (ga.1,ga.2.1,ga.2.2) hac (pm 4 [0,1,2,3])) fun _ _=>?_
 refine ns 2 [1,0] 0 ?_
 exact jn (true,!tn,true,(⟨a0.fl.set tc.1.toNat a1,a0.eV⟩:b7)) H
theorem jI.c (h:jI.f a0=some r):Pt prog 47 [vS a0] (vS r):=by
 refine pf func47 h fun R0 F H=>?_
 refine so<|wr 3 0<|go 1<|gr H fun ga H=>ot Q Q Q (iQ ga)<|gq 1 ?_
 cases H.out; exact ek 0
theorem oi.c {b off:Nat} {bT:TypeId} {qs:Cs} {n:Int} (h0:qs[off]? = some (vI n)):Tr prog 178 [eq (.pointer (some ⟨b,off,none⟩))] [aC b bT qs] (γ:=Unit) (fun _=>True) (fun _=>vI n) (fun _=>[aC b bT qs]):=by
 exact Tr.body func178 (c:=_) Q ntmps178 (Nat.le_of_ble_eq_true Q) fun R0 F=>WP.seq<|WP.rm [(0,false)] kr<|go 1<|WP.seq<|WP.rm [(0,false),(1,false),(2,false),(3,false),(4,false)] kr<|go 3<|Dv.cextr (A:=aC b bT qs) Q T Q (HW h0 func237 kr Q xf237 xg237) (aa 0 Q)<|go 1<|rt i2 Q () 1 [0] 0 (.cons (aB Q) .nil)
theorem kh.c {b off:Nat} {bT:TypeId} {qs:Cs} {n m:Int} (h0:qs[off]? = some (vI n)):Tr prog 236 [eq (.pointer (some ⟨b,off,none⟩)),vI n,vI m] [aC b bT qs] (γ:=Unit) (fun _=>True) (fun _=>vB true) (fun _=>[aC b bT (qs.set off (vI m))]):=by
 exact Tr.body func236 (c:=_) Q ntmps236 (Nat.le_of_ble_eq_true Q) fun R0 F=>WP.seq<|WP.rm [(0,false)] kr<|go 1<|WP.seq<|WP.rm [(0,false),(1,false),(2,false),(3,false),(4,false),(5,true),(6,false)] kr<|go 5<|Dv.JZ (jj:=0) (qs:=qs) Q T Q (LD h0 func265 kr Q xf265 xg265) Q nofun<|go 1<|rt i2 Q () 1 [0] 0 (.cons (aB Q) .nil)
theorem clock_Counter_Add.c {p0_:OV} (h:clock_Counter_Add.f k a0 a1=some r):Tr prog 177 [eq p0_.1,vI a1] [lv.O p0_ a0] (γ:=Unit) (fun _=>True) (fun g=>kZ [vI r.1,vI r.2.1]) (fun g=>[lv.O p0_ r.2.2]):=by
 refine tf func177 h fun R0 F H=>?_
 refine so<|WP.seq<|so<|ce H ?_ ?_ <;> intro H
 ·
  refine sp ?_
  cases H.out; exact et () 1 [0] 0
 refine WP.skip<|WP.block<|ws 1 [0] 0 ?_
 refine lq (fun j_ (pa:Unit)=>clock_Counter_Add.l0 k a0 a1 j_) () H [0,1] (fun _=>[]) (fun _=>[]) ?_
 rintro j_ ⟨⟩ H
 rcases j_ with _ | ja
 ·
  exact (aU.no H).elim
 try dsimp only at H
 rw [clock_Counter_Add.l0] at H
 refine WP.block<|wr 5 0<|go 1<|Dv.qw lv.nn Q T Q (aa 0 Q)<|vg (lv.jf 0 Q) fun ga haa=>?_
 refine fp haa Q T Q yX<|pN 1 [0] (cL 178) (oi.c (b:=ga) (off:=0) (bT:=257) (qs:=[vI a0.fn.fv,vI a0.eb]) (n:=a0.fn.fv) Q) ?_
 refine go 1<|WP.seq<|wr 10 0<|gp 3 ?_
 cases cc:decide (0<a1)
 ·
  have H:=H.cf cc
  refine go 7<|WP.cond Q nofun (fun _=>?_)
  refine WP.skip<|wr 5 0<|go 1<|Dv.bY haa Q T Q<|fp haa Q T Q sf<|gl 2 [0]<|WP.jh H id (fun pc=>[(0,eq p0_.1),(1,vI a1),(6,vI a0.fn.fv),(7,vI pc)]) (fun pc=>[lv.O p0_ a0]++F) (fun pc H=>?_) (fun H=>?_)
  rotate_left
  ·
   refine wr 8 0<|go 2<|Dv.bY haa Q T Q<|fp haa Q T Q sf<|gl 4 [0]<|cf H ?_ ?_ <;> intro H
   ·
    refine WP.skip ?_
    have H:=H.out
    refine ng (lv.shut (p:=p0_) (m:=a0) ga haa (pm 1 [0])) fun _ _=>?_
    exact jn a0.eb H
   refine rg 4 0<|gq 4 ?_
   have H:=H.out
   refine ng (lv.shut (p:=p0_) (m:=a0) ga haa (pm 1 [0])) fun _ _=>?_
   exact jn (av (a0.fn.fv+a1)) H
  refine wr 10 256<|gp 3 ?_
  cases cg:(a1==0)
  rotate_left
  ·
   have H:=H.ct cg
   refine go 5<|Dv.CP Q ⟨_,_,Q,Q,.inl Q⟩ nofun<|go 1<|WP.cond Q (fun _=>?_) nofun
   refine sp ?_
   cases H.out; exact et () 1 [0] 0
  have H:=H.cf cg
  refine go 1<|Dv.qw lv.nn Q (gg Q) Q (aa 0 Q)<|vg (lv.jf 0 Q) fun gb hac=>?_
  refine fp hac Q (gg Q) Q yX<|go 2<|cx 1 [0] (cL 236) (kh.c (b:=gb) (off:=0) (bT:=257) (qs:=[vI a0.fn.fv,vI a0.eb]) (n:=a0.fn.fv) (m:=pc) Q) nofun fun _ _=>?_
  refine go 1<|WP.cond Q (fun _=>?_) nofun
  refine so<|wg (lv.shut (p:=p0_) (m:=(⟨(⟨pc⟩:Cm),a0.eb⟩:lv)) gb hac (pm 1 [0])) fun _ _=>?_
  cases H.out; exact et () 1 [0] 0
 have H:=H.ct cc
 refine go 2<|Dv.bY haa Q (gg Q) Q<|fp haa Q (gg Q) Q sf<|gl 3 [0]<|ce H ?_ ?_ <;> intro H
 ·
  refine so<|wg (lv.shut (p:=p0_) (m:=a0) ga haa (pm 1 [0])) fun _ _=>?_
  cases H.out; exact et () 1 [0] 0
 refine WP.skip<|wr 5 0<|go 1<|Dv.bY haa Q T Q<|fp haa Q T Q sf<|gl 2 [0]<|WP.jh H id (fun pe=>[(0,eq p0_.1),(1,vI a1),(6,vI a0.fn.fv),(7,vI pe)]) (fun pe=>[lv.O p0_ a0]++F) (fun pe H=>?_) (fun H=>?_)
 rotate_left
 ·
  refine wr 8 0<|go 2<|Dv.bY haa Q T Q<|fp haa Q T Q sf<|gl 4 [0]<|cf H ?_ ?_ <;> intro H
  ·
   refine WP.skip ?_
   have H:=H.out
   refine ng (lv.shut (p:=p0_) (m:=a0) ga haa (pm 1 [0])) fun _ _=>?_
   exact jn a0.eb H
  refine rg 4 0<|gq 4 ?_
  have H:=H.out
  refine ng (lv.shut (p:=p0_) (m:=a0) ga haa (pm 1 [0])) fun _ _=>?_
  exact jn (av (a0.fn.fv+a1)) H
 refine wr 10 256<|gp 3 ?_
 cases ci:(a1==0)
 rotate_left
 ·
  have H:=H.ct ci
  refine go 5<|Dv.CP Q ⟨_,_,Q,Q,.inl Q⟩ nofun<|go 1<|WP.cond Q (fun _=>?_) nofun
  refine sp ?_
  cases H.out; exact et () 1 [0] 0
 have H:=H.cf ci
 refine go 1<|Dv.qw lv.nn Q (gg Q) Q (aa 0 Q)<|vg (lv.jf 0 Q) fun gi had=>?_
 refine fp had Q (gg Q) Q yX<|go 2<|cx 1 [0] (cL 236) (kh.c (b:=gi) (off:=0) (bT:=257) (qs:=[vI a0.fn.fv,vI a0.eb]) (n:=a0.fn.fv) (m:=pe) Q) nofun fun _ _=>?_
 refine go 1<|WP.cond Q (fun _=>?_) nofun
 refine so<|wg (lv.shut (p:=p0_) (m:=(⟨(⟨pe⟩:Cm),a0.eb⟩:lv)) gi had (pm 1 [0])) fun _ _=>?_
 cases H.out; exact et () 1 [0] 0
theorem fO.c {p0_:OV} (h:fO.f k a0=some r):Tr prog 114 [eq p0_.1] [lv.O p0_ a0] (γ:=Unit) (fun _=>True) (fun g=>kZ [vI r.1,vI r.2.1]) (fun g=>[lv.O p0_ r.2.2]):=by
 refine tf func114 h fun R0 F H=>?_
 refine so<|wr 6 2<|go 1<|el H fun ta haa H=>cx 1 [0] (cL 177) (clock_Counter_Add.c haa (p0_:=p0_)) nofun fun _ _=>?_
 refine dV Q T Q Q<|dV Q T Q Q<|gq 2 ?_
 cases H.out; exact et () 1 [0] 0
theorem bE.c (h:bE.f k a0 a1=some r):Pt prog 115 [sl aw a0,vS a1] (vI r):=by
 refine pf func115 h fun R0 F H=>?_
 refine so<|sr H id [] (fun _=>[]) (fun _=>[]) (fun pa H=>?_) (fun H=>?_)
 ·
  refine sp ?_
  cases H.out; exact ek 0
 refine wr 3 0<|go 1<|Dv.fj Q T Q dj<|go 1<|WP.block<|ws 0 [] 0 ?_
 refine lq (fun j_ (pc:Int)=>bE.l0 k a0 a1 j_ pc) 0 H [0,1,7] (fun pc=>[(8,vI pc)]) (fun _=>[]) ?_
 rintro j_ xc H
 rcases j_ with _ | ja
 ·
  exact (aU.no H).elim
 try dsimp only at H
 rw [bE.l0] at H
 refine so<|WP.seq<|cf H ?_ ?_ <;> intro H
 ·
  refine WP.exit ?_
  have H:=H.out
  exact jn (xc,decide (xc<(a0.length:Int))) H
 refine WP.skip<|WP.seq<|WP.block<|so<|wr 6 0<|go 3<|gr H fun ga H=>Dv.fR Q T Q Q dj U9 c9 ga.1 ga.2<|kI Q T Q oc Q<|go 1<|cf H ?_ ?_ <;> intro H
 ·
  exact WP.skip<|rg 2 0<|go 2<|bk ja (av (xc+1)) H
 refine sp ?_
 have H:=H.eR
 cases H.out; exact ek 0
theorem ea.c {a1 a2:Int} {p0_:OV} (h:ea.f a0 a1 a2=some r):Tr prog 116 [eq p0_.1,vI a1,vI a2] [own aw p0_.1 a0] (γ:=OV) (fun _=>True) (fun g=>eq g.1) (fun g=>[own aw g.1 r]):=by
  unfold ea.f at h
  obtain ⟨⟨h1,h2,h3⟩,h5⟩:=(aU.of h).an
  obtain rfl:=aU.out h5
  clear h h5
  obtain ⟨i,rfl⟩:=Int.eq_ofNat_of_zero_le h1
  obtain ⟨j,rfl⟩:=Int.eq_ofNat_of_zero_le (show (0:Int)≤a2 by omega)
  have hij:i≤j:=om
  have hj:j≤a0.length:=om
  obtain ⟨v,hv⟩:=p0_
  rw [Int.toNat_natCast,Int.toNat_natCast]
  refine Tr.body func116 (c:=_) Q ntmps116 (Nat.le_of_ble_eq_true Q) fun R0 F=>?_
  refine so<|wr 6 0<|go 4<|Dv.kl (Kd:=aw) (xs:=a0) (v:=v) Q T Q (aa 0 Q) dj<|Dv.sl3 (Kd:=aw) Q T Q (aa 0 Q) dj U9 c9 (eQ Q) (eQ Q) (eQ Q) hij hj<|.fin<|WP.seq<|so<|WP.cond Q (fun c0=>?_) (fun c0=>?_)
  · have e1:i=j:=by have:=beq_iff_eq.1 c0; omega
    subst e1
    rw [List.take_append_drop]
    refine sp ?_
    exact WP.BZ (fun _ _ h=>h) Q (⟨v,hv⟩:OV) T (.cons (aB Q) .nil) Q (vZ (L:=[own aw v a0]) (F:=F) [0] 0 Q Q Q)
  have hlt:i<j:=by
    have:¬ ((i:Int)=(j:Int)):=by simpa using c0
    omega
  have hzl:(a0.take i++a0.drop j++a0.drop (i+(a0.length-j))).length=a0.length:=by simp only [List.length_append,List.length_take,List.length_drop]; omega
  have hpl:(i+(a0.length-j))<(a0.take i++a0.drop j++a0.drop (i+(a0.length-j))).length:=by rw [hzl]; omega
  have hfin:((a0.take i++a0.drop j++a0.drop (i+(a0.length-j))).take (i+(a0.length-j))++List.replicate ((a0.take i++a0.drop j++a0.drop (i+(a0.length-j))).length-(i+(a0.length-j))) eE).take (i+(a0.length-j))=a0.take i++a0.drop j:=by
    have hl:(a0.take i++a0.drop j).length=(i+(a0.length-j)):=by rw [List.length_append,List.length_take,List.length_drop]; omega
    rw [List.take_append,List.take_take,Nat.min_self,List.take_left' hl]
    have:(i+(a0.length-j))-(a0.take i++a0.drop j).length=0:=om
    rw [this,List.take_zero,List.append_nil]
  refine WP.skip<|wr 3 0<|go 1<|Dv.kl (Kd:=aw) (xs:=a0) (v:=v) Q T Q (aa 0 Q) dj<|go 1<|wd mX 8 64<|go 2<|Dv.slpf (Kd:=aw) Q T Q (aa 0 Q) dj U9 c9 (eQ Q) (Nat.le_trans hij hj)<|go 2<|Dv.slt (Kd:=aw) (p:=j) Q T Q (aa 0 Q) dj U9 c9 (eQ Q) hj<|Dv.apt (Kd:=aw) (jj:=0) Q T Q Q Q dj dj U9 c9 ⟨hlt,hj⟩ (fun _=>fG kr)<|gq 1 ?_
  refine wr 6 32<|go 2<|Dv.lenp (Kd:=aw) (xs:=(a0.take i++a0.drop j++a0.drop (i+(a0.length-j)))) Q T Q (aa 0 Q) dj<|go 1<|Dv.slpt (Kd:=aw) (xs:=(a0.take i++a0.drop j++a0.drop (i+(a0.length-j)))) (p:=(i+(a0.length-j))) (q:=a0.length) Q T Q (aa 0 Q) dj U9 c9 (eQ Q) (eQ Q) om (Nat.le_of_eq hzl.symm)<|Dv.clrt (Kd:=aw) (jj:=0) eE Q T ((show opv _ _=some (eq (tlv _ v a0.length (i+(a0.length-j)))) from Q).trans (congrArg (fun z=>some (eq (tlv _ v z (i+(a0.length-j))))) hzl.symm)) dj z9 Q Q (fun u hu=>by simp [Value.cells] at hu; subst hu; rfl) hpl Q nofun<|.fin<|sp ?_
  refine WP.gh (l':=fun _:Unit=>[own aw (pfv v (i+(a0.length-j))) (a0.take i++a0.drop j)]++F) (jw (ok:=fun _=>True) (fun R w h=>by obtain ⟨_,_,h2⟩:=G5 (m:=(i+(a0.length-j))) 0 rfl (by rw [List.length_append,List.length_take,List.length_replicate]; omega) R w h; rw [hfin] at h2; exact ⟨(),T,h2⟩)) (fun _ _=>?_)
  exact WP.BZ (fun _ _ h=>h) Q (⟨pfv v (i+(a0.length-j)),Dl hv⟩:OV) T (.cons (aB Q) .nil) Q (vZ (L:=[own aw (pfv v (i+(a0.length-j))) (a0.take i++a0.drop j)]) (F:=F) [0] 0 Q Q Q)
theorem iF.c {p0_:OV} (h:iF.f k a0 a1=some r):Tr prog 48 [eq p0_.1,vS a1] [b8.O p0_ a0] (γ:=Unit) (fun _=>True) (fun g=>kZ [vI r.1,vI r.2.1]) (fun g=>[b8.O p0_ r.2.2]):=by
 refine tf func48 h fun R0 F H=>?_
 refine so<|wr 10 16<|go 1<|Dv.qw b8.nn Q T Q (aa 0 Q)<|vg (b8.jf 0 Q) fun ga haa=>?_
 refine fp haa Q T Q CH<|gl 1 [0]<|el H fun ta hac H=>cx 4 [1,0,2,3] (cL 114) (fO.c hac (p0_:=ga.2.1)) nofun fun _ _=>?_
 refine go 1<|dV Q T Q Q<|dV Q T Q Q<|go 2<|WP.seq<|so<|ce H ?_ ?_ <;> intro H
 ·
  refine so<|wg (b8.shut (p:=p0_) (m:=(⟨ta.2.2,a0.eS,a0.ox⟩:b8)) (ga.1,ga.2.1,ga.2.2.1,ga.2.2.2) haa (pm 4 [1,0,2,3])) fun _ _=>?_
  cases H.out; exact et () 1 [0] 0
 refine WP.skip<|WP.jh H id (fun pa=>[(0,eq p0_.1),(1,vS a1),(6,vI ta.1)]) (fun pa=>[b8.O p0_ pa]++F) (fun pa H=>?_) (fun H=>?_)
 ·
  refine wr 11 1152<|go 2<|Dv.qw b8.nn Q T Q (aa 0 Q)<|vg (b8.jf 0 Q) fun gb had=>?_
  refine fp had Q T Q nk<|gl 2 [0]<|Dv.lit aw ([a1]:List BA) (css:=[[vS a1]]) Q T dj U9 c9 z9 Q dc dc Q ⟨(cells_one (ah Q)),T⟩ Q Q Q<|gr H fun gi H=>ap aw 2 ([a1]:List BA) bF dj (.inr ⟨_,dj⟩) rM gi nofun fun va=>?_
  refine Dv.bY had Q T Q<|fp had Q T Q nk<|sx 0 Q T Q Q (cells_one bH) IY Q Q Q nofun ?_
  refine .fin<|wr 7 64<|go 1<|Dv.bY had Q T Q<|fp had Q T Q zI<|gl 3 [0]<|Dv.mup (jj:=3) ta.1 Q T Q Q Q Q ug (dU U9) nofun<|.fin<|so<|wg (b8.shut (p:=p0_) (m:=(⟨pa.iU,pa.eS++([a1]:List BA),mput pa.ox a1 ta.1⟩:b8)) (gb.1,gb.2.1,va,gb.2.2.2) had (pm 4 [0,1,2,3])) fun _ _=>?_
  cases H.out; exact et () 1 [0] 0
 refine wr 11 0<|go 1<|Dv.bY haa Q T Q<|fp haa Q T Q zI<|gl 2 [1]<|Dv.mlk 0 Q T Q (aa 3 Q) Q ug (dU U9) z3 (fun _=>Q)<|go 1<|dV Q T Q Q<|dV Q T Q Q<|go 2<|so<|cf H ?_ ?_ <;> intro H
 ·
  refine WP.skip ?_
  have H:=H.out
  refine ng (b8.shut (p:=p0_) (m:=(⟨ta.2.2,a0.eS,a0.ox⟩:b8)) (ga.1,ga.2.1,ga.2.2.1,ga.2.2.2) haa (pm 4 [1,0,2,3])) fun _ _=>?_
  exact jn (⟨ta.2.2,a0.eS,a0.ox⟩:b8) H
 refine wr 7 0<|go 1<|Dv.bY haa Q T Q<|fp haa Q T Q nk<|gl 2 [1]<|el H fun tc hae H=>pN (B:=[own aw ga.2.2.1.1 a0.eS]) 4 [2,0,1,3] (cL 115) (Pt.xD _ (bE.c hae) (.cons (pI (aa 0 Q)) (.cons rn .nil)) lT) ?_
 refine go 1<|rg 12 2304<|go 2<|Dv.bY haa Q T Q<|fp haa Q T Q nk<|gl 4 [1]<|el H fun te haf H=>cx 4 [2,0,1,3] (cL 116) (ea.c haf (p0_:=ga.2.2.1)) nofun fun gj _=>?_
 refine Dv.bY haa Q T Q<|fp haa Q T Q nk<|sx 2 Q T Q Q (cells_one bH) IY Q Q Q nofun ?_
 refine .fin ?_
 have H:=H.out
 refine ng (b8.shut (p:=p0_) (m:=(⟨ta.2.2,te,a0.ox⟩:b8)) (ga.1,ga.2.1,gj,ga.2.2.2) haa (pm 4 [2,1,0,3])) fun _ _=>?_
 exact jn (⟨ta.2.2,te,a0.ox⟩:b8) H
theorem iN.c (h:iN.f a0=some r):Pt prog 49 [agg (jO.enc a0)] (vS r):=by
 refine pf func49 h fun R0 F H=>?_
 refine wr 2 1<|Dv.box Q T Q cA nofun fun ba=>go 1<|WP.seq<|sN [0]<|cf H ?_ ?_ <;> intro H
 ·
  refine WP.skip<|WP.seq<|sN [0]<|ce H ?_ ?_ <;> intro H
  ·
   refine wr 4 0<|gl 2 [0]<|gr H fun ga H=>ot Q Q Q (iQ ga)<|gq 1 ?_
   cases H.out; exact ek 1
  refine WP.skip<|wr 4 0<|gl 2 [0]<|gr H fun gb H=>ot Q Q Q (iQ gb)<|gq 1 ?_
  cases H.out; exact ek 1
 refine so<|sq H id [1] (fun pa=>[(3,vS pa)]) (fun _=>[]) (fun pa H=>?_) (fun H=>?_)
 rotate_left
 ·
  refine sN [0]<|cf H ?_ ?_ <;> intro H
  ·
   refine WP.skip ?_
   have H:=H.out
   exact jn (⟨#[32,48]⟩:BA) H
  refine rg 1 0<|gq 1 ?_
  have H:=H.out
  exact jn (⟨#[32,49]⟩:BA) H
 refine wr 17 0<|gl 3 [0]<|gr H fun gi H=>ot Q Q Q (iQ gi)<|gr H fun gj H=>ot Q Q Q (iQ gj)<|gl 3 [0]<|gr H fun gk H=>ot Q Q Q (iQ gk)<|gr H fun gm H=>ot Q Q Q (iQ gm)<|gl 3 [0]<|gr H fun gn H=>ot Q Q Q (iQ gn)<|go 1<|gr H fun gu H=>ot Q Q Q (iQ gu)<|gq 1 ?_
 cases H.out; exact ek 1
end Go.Proofs.YtfknmdelgepbjaaGreatDoor
