import Derived.Test.YtfknmdelgepbjaaGreatDoorVZWalks1
set_option linter.all false
set_option autoImplicit true
set_option maxRecDepth 10000
set_option maxHeartbeats 20000000
namespace Go.Proofs.YtfknmdelgepbjaaGreatDoor
open Go Go.Sp Tryz
theorem dE.c (h:dE.f k a0 a1=some r):Pt prog 218 [agg (aM.enc a0),vS a1] (vI r):=by
 refine pf func218 h fun R0 F H=>?_
 refine wr 2 1<|Dv.box Q T Q cA nofun fun ba=>go 1<|wr 4 0<|gl 2 [0]<|el H fun ta haa H=>cl Q (cL 148) Q (eK.c haa)<|go 1<|WP.seq<|so<|ce H ?_ ?_ <;> intro H
 ·
  refine sp ?_
  cases H.out; exact ek 1
 refine WP.skip<|wr 4 4<|go 2<|gr H fun ga H=>?_
 obtain ⟨ti867,ti867a,ti867b,ti867c,ti867d⟩:=H5
 refine Dv.Hl (Kd:=(bq .i64)) (0:Int) Q T Q Q oU ti867a ti867b ti867c ti867d Q dc Q ga nofun (fun va=>?_)
 refine go 1<|WP.jh H id (fun pa=>[(5,vI ta),(6,eq va.1)]) (fun pa=>[aE ba 113 (aM.enc a0),own (bq .i64) va.1 pa.2.2]++F) (fun pa H=>?_) (fun H=>?_)
 ·
  refine wr 5 0<|go 2<|gr H fun gb H=>?_
  have hac:ta.toNat<pa.2.2.length:=bp gb
  refine Dv.jX Q T Q (aa 1 Q) Q oU U3 c3 gb.1 gb.2<|Dv.na (j:=ta.toNat) (f:=0) (p:=vI (pa.2.2.getD ta.toNat default)) Q T Q (aa 1 Q) hac U3 Q Q<|gq 1 ?_
  cases H.out; exact ek 2
 refine so<|WP.block<|ws 2 [1,0] 0 ?_
 refine lq (fun j_ (pc:Int×(List Int))=>dE.l0 k a0 ta j_ pc.1 pc.2) (0,List.replicate (av (ta+1)).toNat (0:Int)) H [2,5,6] (fun pc=>[(7,vI pc.1)]) (fun pc=>[(1,own (bq .i64) va.1 pc.2)]) ?_
 rintro j_ ⟨xc,xd⟩ H
 rcases j_ with _ | ja
 ·
  exact (aS.no H).elim
 try dsimp only at H
 rw [dE.l0] at H
 refine WP.seq<|so<|cf H ?_ ?_ <;> intro H
 ·
  refine WP.exit ?_
  have H:=H.out
  exact jn (xc,decide (xc≤ta),xd) H
 refine WP.skip<|WP.jh H id (fun pe=>[(2,ey ba),(5,vI ta),(6,eq va.1),(7,vI xc)]) (fun pe=>[aE ba 113 (aM.enc a0),own (bq .i64) va.1 pe.2.2]++F) (fun pe H=>?_) (fun H=>?_)
 ·
  exact rg 3 0<|go 3<|bk ja (av (xc+1),pe.2.2) H
 refine WP.block<|so<|WP.block<|ws 2 [0,1] 0 ?_
 refine lq (fun j_ (pg:Int×(List Int))=>dE.l1 k a0 xc j_ pg.1 pg.2) (0,xd) H [2,5,6,7] (fun pg=>[(8,vI pg.1)]) (fun pg=>[(1,own (bq .i64) va.1 pg.2)]) ?_
 rintro j_ ⟨xe,xf⟩ H
 rcases j_ with _ | jc
 ·
  exact (aS.no H).elim
 try dsimp only at H
 rw [dE.l1] at H
 refine WP.seq<|wr 9 0<|gl 4 [0]<|gr H fun gi H=>Dv.fR Q T Q Q qn kM mL gi.1 gi.2<|fr Q T Q Cm Q<|jw Q T Q Iz Q<|Dv.fk Q T Q de<|go 1<|cf H ?_ ?_ <;> intro H
 ·
  refine WP.exit ?_
  have H:=H.out
  exact jn (xe,decide (xe<(((Event.K.at a0.fL xc).ag).length:Int)),xf) H
 refine WP.skip<|WP.seq<|WP.block<|dg mX 24 8388608<|go 4<|gr H fun gj H=>?_
 have had:xc.toNat<xf.length:=bp gj
 refine Dv.jX Q T Q (aa 1 Q) Q oU U3 c3 gj.1 gj.2<|Dv.na (j:=xc.toNat) (f:=0) (p:=vI (xf.getD xc.toNat default)) Q T Q (aa 1 Q) had U3 Q Q<|gl 5 [0,0]<|gr H fun gk H=>Dv.fR Q T Q Q qn kM mL gk.1 gk.2<|fr Q T Q Cm Q<|jw Q T Q Iz Q<|go 1<|gr H fun gm H=>Dv.fR Q T Q Q de U9 c9 gm.1 gm.2<|jw Q T Q nu Q<|el H fun tc hae H=>cl Q (cL 148) Q (eK.c hae)<|gr H fun gn H=>?_
 have haf:tc.toNat<xf.length:=bp gn
 refine Dv.jX Q T Q (aa 1 Q) Q oU U3 c3 gn.1 gn.2<|Dv.na (j:=tc.toNat) (f:=0) (p:=vI (xf.getD tc.toNat default)) Q T Q (aa 1 Q) haf U3 Q Q<|go 1<|Dv.JG Q T Q Q<|gr H fun gu H=>?_
 have hag:xc.toNat<xf.length:=bp gu
 exact Dv.jX Q T Q (aa 1 Q) Q oU U3 c3 gu.1 gu.2<|Dv.IK (j:=xc.toNat) (f:=0) (jj:=1) (max (xf.getD xc.toNat default) (av ((xf.getD tc.toNat default)+1))) Q T Q Q (cells_one (ah Q)) U3 c3 Q Q hag (Nat.le_of_ble_eq_true Q) Q (fun _=>fO kr)<|.fin<|rg 3 0<|go 3<|bk jc (av (xe+1),xf.set xc.toNat (max (xf.getD xc.toNat default) (av ((xf.getD tc.toNat default)+1)))) H
theorem dI.c (h:dI.f k a0 a1=some r):Pt prog 152 [agg (aM.enc a0),vS a1] (agg (Pos.enc r)):=by
 refine pf func152 h fun R0 F H=>?_
 refine wr 2 3<|Dv.box Q T Q cA nofun fun ba=>al Q T tY nofun fun bc=>.fin<|wr 6 32<|gl 2 [1]<|el H fun ta haa H=>cl Q (cL 218) Q (dE.c haa)<|go 1<|Dv.kL (qs:=[vI ta,vS a1]) (css:=[[vI ta],[vS a1]]) Q T uB FR IA Q ⟨(cells_one (ah Q)),⟨(cells_one (ah Q)),T⟩⟩ Q Q<|sy 0 ?_
 refine .fin ?_
 cases H.out; exact r2 i2 Q (.cons (au Q uB Q Az (aa 0 Q) Q) .nil)
theorem kR.c (h:kR.f k a0 a1 a2=some r):Pt prog 95 [agg (bA.enc a0),vS a1,vS a2] (lu [agg (Pos.enc r.1),vB r.2]):=by
 refine pf func95 h fun R0 F H=>?_
 refine wr 3 3<|Dv.box Q T Q cA nofun fun ba=>al Q T tY nofun fun bc=>go 1<|wr 5 24<|gl 2 [1]<|el H fun ta haa H=>cl Q (cL 77) Q (iz.c haa)<|al Q T oO nofun fun bd=>sy 0 ?_
 refine .fin<|WP.seq<|wr 4 0<|gl 2 [0]<|el H fun tc hac H=>cl Q (cL 148) Q (eK.c hac)<|go 1<|cf H ?_ ?_ <;> intro H
 ·
  refine WP.skip<|wr 5 8<|gl 2 [0]<|el H fun te had H=>cl Q (cL 152) Q (dI.c had)<|sy 1 ?_
  refine gq 1 ?_
  cases H.out; exact r3 i2 Q (.cons (au Q uB Q Az (aa 1 Q) Q) (.cons (aB Q) .nil))
 refine wr 3 2<|Dv.kL (qs:=[vI 0,vS eE]) (css:=[]) Q T uB FR IA Q T Q Q<|sy 1 ?_
 refine gq 1 ?_
 cases H.out; exact r3 i2 Q (.cons (au Q uB Q Az (aa 1 Q) Q) (.cons (aB Q) .nil))
theorem qH.c (h:qH.f k a0 a1 a2=some r):Pt prog 38 [agg (qG.enc a0),agg (bA.enc a1),agg (ak.enc a2)] (lu [agg (qG.enc r.1),vB r.2.1,vI r.2.2]):=by
 refine pf func38 h fun R0 F H=>?_
 refine wr 6 15<|Dv.box Q T Q cA nofun fun ba=>Dv.box Q T Q cA nofun fun bc=>Dv.box Q T Q cA nofun fun bd=>al Q T Ka nofun fun be=>go 2<|wr 3 0<|gl 1 [1]<|el H fun ta haa H=>cl Q (cL 92) Q (fY.c haa)<|go 1<|WP.seq<|wr 7 0<|kU 4 [1] ?_
 cases cc:(a2.aI != 1)
 rotate_left
 ·
  have H:=H.ct cc
  refine go 3<|WP.cond Q (fun _=>?_) nofun
  refine wr 4 2<|gl 1 [3]<|sy 0 ?_
  refine gq 2 ?_
  cases H.out; exact r4 i2 Q (.cons (au Q A9 Q Fc (aa 0 Q) Q) (.cons (aB Q) (.cons (aB Q) .nil)))
 have H:=H.cf cc
 refine go 3<|ce H ?_ ?_ <;> intro H
 ·
  refine wr 4 2<|gl 1 [3]<|sy 0 ?_
  refine gq 2 ?_
  cases H.out; exact r4 i2 Q (.cons (au Q A9 Q Fc (aa 0 Q) Q) (.cons (aB Q) (.cons (aB Q) .nil)))
 refine WP.skip<|wr 9 0<|gl 7 [2,1,1,1]<|el H fun tc hac H=>cl Q (cL 93) Q (oR.c hac)<|go 1<|WP.seq<|so<|ce H ?_ ?_ <;> intro H
 ·
  refine wr 13 3840<|gl 3 [3,1]<|el H fun te had H=>cl Q (cL 94) Q (kO.c had)<|go 1<|eF Q T Q Q<|eF Q T Q Q<|eF Q T Q Q<|al Q T Kc nofun fun bg=>al Q T wa nofun fun bh=>sy 1 ?_
  refine sy 0 ?_
  refine go 1<|wr 7 16<|gl 3 [5,1]<|Dv.kL (qs:=[sl MK.K a0.fL,vI te.1.pI,sl ak.K te.1.fL,vI te.1.qm]) (css:=[[sl MK.K a0.fL],nY.enc te.1]) Q T A9 GA IC Q ⟨(cells_one dL),⟨(aR (nY.K.one _)),T⟩⟩ Q Q<|sy 2 ?_
  refine gq 2 ?_
  cases H.out; exact rt i2 Q () 6 [0,1,2,3,4,5] 6 (.cons (au Q A9 Q Fc (aa 2 Q) Q) (.cons (aB Q) (.cons (aB Q) .nil)))
 refine WP.skip<|WP.seq<|so<|ce H ?_ ?_ <;> intro H
 ·
  refine wr 5 4<|gl 2 [3]<|sy 0 ?_
  refine gq 2 ?_
  cases H.out; exact r4 i2 Q (.cons (au Q A9 Q Fc (aa 0 Q) Q) (.cons (aB Q) (.cons (aB Q) .nil)))
 refine WP.skip<|wr 12 1536<|gl 5 [2,1,1]<|el H fun tg hae H=>cl Q (cL 95) Q (kR.c hae)<|go 1<|eF Q T Q Q<|eF Q T Q Q<|al Q T tY nofun fun bi=>sy 0 ?_
 refine go 1<|wd mX 11 0<|gl 3 [4,2]<|el H fun tj haf H=>cl Q (cL 40) Q (qw.c haf)<|gl 1 [0]<|el H fun tm hag H=>cl Q (cL 25) Q (jG.c hag)<|go 1<|eF Q T Q Q<|eF Q T Q Q<|go 2<|wr 8 32<|gl 3 [4]<|Dv.kL (qs:=[sl MK.K tm.1,vI a0.fP.pI,sl ak.K a0.fP.fL,vI a0.fP.qm]) (css:=[[sl MK.K tm.1],nY.enc a0.fP]) Q T A9 GA IC Q ⟨(cells_one dL),⟨(aR (nY.K.one _)),T⟩⟩ Q Q<|go 1<|sy 1 ?_
 refine gq 2 ?_
 cases H.out; exact r5 i2 Q (.cons (au Q A9 Q Fc (aa 1 Q) Q) (.cons (aB Q) (.cons (aB Q) .nil)))
theorem cF.c (h:cF.f a0 a1 a2=some r):Pt prog 219 [vI a0,vI a1,vI a2] (vB r):=by
 refine pf func219 h fun R0 F H=>?_
 refine so<|wr 9 0<|gp 4 ?_
 cases cc:decide (a1≤a0)
 ·
  have H:=H.cf cc
  refine gq 5 ?_
  cases H.out; exact ek 0
 have H:=H.ct cc
 refine gq 5 ?_
 cases H.out; exact ek 0
theorem iY.c (h:iY.f a0=some r):Pt prog 220 [agg (ak.enc a0)] (vB r):=by
 refine pf func220 h fun R0 F H=>?_
 refine wr 2 1<|Dv.box Q T Q cA nofun fun ba=>go 1<|sp ?_
 cases H.out; exact ek 1
theorem lE.c (h:lE.f k a0=some r):Pt prog 222 [vS a0] (vB r):=by
 refine pf func222 h fun R0 F H=>?_
 refine so<|wr 11 0<|gp 3 ?_
 cases cc:decide (a0=eE)
 rotate_left
 ·
  have H:=H.ct cc
  refine gq 8 ?_
  cases H.out; exact ek 0
 have H:=H.cf cc
 refine gp 4 ?_
 cases cg:decide (a0=(⟨#[109,97,105,110]⟩:BA))
 rotate_left
 ·
  have H:=H.ct cg
  refine gq 4 ?_
  cases H.out; exact ek 0
 have H:=H.cf cg
 refine go 1<|el H fun ta haa H=>Dv.call Q (gg Q) (cL 211) Q (eA.c haa)<|gq 2 ?_
 cases H.out; exact ek 0
theorem gI.c (h:gI.f k a0=some r):Pt prog 221 [agg (ak.enc a0)] (vB r):=by
 refine pf func221 h fun R0 F H=>?_
 refine wr 2 1<|Dv.box Q T Q cA nofun fun ba=>go 1<|wr 14 0<|gl 2 [0]<|el H fun ta haa H=>cl Q (cL 212) Q (kN.c haa)<|gp 1 ?_
 cases cc:ta
 ·
  have H:=H.cf cc
  refine gq 10 ?_
  cases H.out; exact ek 1
 have H:=H.ct cc
 refine gl 2 [0]<|el H fun tc hac H=>Dv.call Q (gg Q) (cL 211) Q (eA.c hac)<|gp 2 ?_
 cases cg:tc
 ·
  have H:=H.cf cg
  refine gq 5 ?_
  cases H.out; exact ek 1
 have H:=H.ct cg
 refine gl 2 [0]<|el H fun te had H=>Dv.call Q (gg Q) (cL 222) Q (lE.c had)<|gq 2 ?_
 cases H.out; exact ek 1
theorem fN.c {c0:Int→Int→Int→Option Bool} (h:fN.f k a0 c0=some r):Pt prog 223 [agg (ak.enc a0),rp [nb c0]] (vB r):=by
 refine pf func223 h fun R0 F H=>?_
 refine wr 2 1<|Dv.box Q T Q cA nofun fun ba=>go 1<|wr 15 0<|gl 2 [0]<|el H fun ta haa H=>cl Q (cL 212) Q (kN.c haa)<|gp 1 ?_
 cases cc:ta
 ·
  have H:=H.cf cc
  refine gq 11 ?_
  cases H.out; exact ek 1
 have H:=H.ct cc
 refine kU 4 [0] ?_
 cases cg:!a0.kl
 rotate_left
 ·
  have H:=H.ct cg
  refine gq 7 ?_
  cases H.out; exact ek 1
 have H:=H.cf cg
 refine jw Q (gg Q) Q JY Q<|gl 2 [0]<|el H fun tc hac H=>Dv.tH (ret:=vB tc) Q (gg Q) Q Q ⟨_,_,_,_,hac,Q,Q⟩<|gq 3 ?_
 cases H.out; exact ek 1
theorem fI.c {c0:Int→Int→Int→Option Bool} (h:fI.f a0 c0=some r):Pt prog 224 [agg (ak.enc a0),rp [nb c0]] (vB r):=by
 refine pf func224 h fun R0 F H=>?_
 refine wr 2 1<|Dv.box Q T Q cA nofun fun ba=>go 1<|wr 5 0<|jw Q T Q JY Q<|gl 2 [0]<|el H fun ta haa H=>Dv.tH (ret:=vB ta) Q T Q Q ⟨_,_,_,_,haa,Q,Q⟩<|gq 1 ?_
 cases H.out; exact ek 1
theorem nR.c (h:nR.f k=some r):Pt prog 153 [] (sl iE r):=by
 refine pf func153 h fun R0 F H=>?_
 refine so<|wr 2 3<|al Q T zc336 nofun fun ba=>sy 0 ?_
 refine .fin<|wr 4 0<|Dv.gh (rO (E':=[(0,dJ),(1,rp [eq (.func (.func 219) #[] #[])])]) (l':=F) 0 Q (ar Q ay (ar Q kV jK)) (gK .nil fun _=>bP)) (fun _ _=>?_)
 refine Dv.mkf (Q:=mi (fun a0_=>fN.f k a0_ cF.f)) (cL 223) (by rintro _ _ ⟨a0_,r_,h_,rfl,rfl⟩; exact Pt.kn (fN.c h_) (.cons bV (.cons (JS (.cons (xC (cL 219) (by rintro _ _ ⟨a0_,a1_,a2_,r_,h_,rfl,rfl⟩; exact cF.c h_)) .nil)) .nil))) Q T Q Q<|Dv.mkf (Q:=mi (fun a0_=>fI.f a0_ cF.f)) (cL 224) (by rintro _ _ ⟨a0_,r_,h_,rfl,rfl⟩; exact Pt.kn (fI.c h_) (.cons bV (.cons (JS (.cons (xC (cL 219) (by rintro _ _ ⟨a0_,a1_,a2_,r_,h_,rfl,rfl⟩; exact cF.c h_)) .nil)) .nil))) Q T Q Q<|Dv.lit iE ([iY.f,gI.f k,fun a0_=>fN.f k a0_ cF.f,fun a0_=>fI.f a0_ cF.f]:List (ak→Option Bool)) (css:=[[jT iY.f],[jT (gI.f k)],[jT (fun a0_=>fN.f k a0_ cF.f)],[jT (fun a0_=>fI.f a0_ cF.f)]]) Q T U273 KG c201 z201 Q dc dc Q ⟨(Af (xC (cL 220) (by rintro _ _ ⟨a0_,r_,h_,rfl,rfl⟩; exact iY.c h_)) (ah Q)),⟨(Af (xC (cL 221) (by rintro _ _ ⟨a0_,r_,h_,rfl,rfl⟩; exact gI.c h_)) (ah Q)),⟨(cells_one n9),⟨(cells_one n9),T⟩⟩⟩⟩ Q Q Q<|gq 1 ?_
 cases H.out; exact ek 0
theorem iM.c (h:iM.f a0=some r):Pt prog 154 [vI a0] (vB r):=by
 refine pf func154 h fun R0 F H=>?_
 refine so<|wr 7 0<|gp 3 ?_
 cases cc:decide (0≤a0)
 ·
  have H:=H.cf cc
  refine gq 4 ?_
  cases H.out; exact ek 0
 have H:=H.ct cc
 refine gq 4 ?_
 cases H.out; exact ek 0
theorem mn.c (h:mn.f a0=some r):Pt prog 155 [agg (ak.enc a0)] (agg (ak.enc r)):=by
 refine pf func155 h fun R0 F H=>?_
 refine wr 2 3<|Dv.box Q T Q cA nofun fun ba=>al Q T wa nofun fun bc=>.fin<|wr 11 1536<|gl 8 [1,1,1,1]<|Dv.kL (qs:=[vI a0.aI,vS eE,vS a0.aj,vS eE,vS eE,vB false,vB false,vI 0,vI 0,vI a0.aU,vI a0.aZ]) (css:=[[vI a0.aI],[vS a0.aj],[vI a0.aU],[vI a0.aZ]]) Q T gJ Cc wm Q ⟨(cells_one (ah Q)),⟨(cells_one (ah Q)),⟨(cells_one (ah Q)),⟨(cells_one (ah Q)),T⟩⟩⟩⟩ Q Q<|al Q T wa nofun fun bd=>sy 0 ?_
 refine .fin<|WP.seq<|su [2]<|WP.block<|so<|ce H ?_ ?_ <;> intro H
 ·
  refine dg mX 16 43520<|gl 9 [2,2,2,2]<|sx 0 Q T Q Q cE sz9 Q Q Q pD ?_
  refine go 1<|sx 0 Q T Q Q cE sz9 Q Q Q pD ?_
  refine go 1<|sx 0 Q T Q Q cE sz9 Q Q Q pD ?_
  refine go 1<|sv 0 ?_
  refine .fin<|wr 2 2<|gl 1 [0]<|sy 1 ?_
  refine .fin ?_
  cases H.out; exact r3 i2 Q (.cons (au Q gJ Q iy (aa 1 Q) Q) .nil)
 refine so<|cf H ?_ ?_ <;> intro H
 ·
  refine so<|cf H ?_ ?_ <;> intro H
  ·
   refine WP.skip<|wr 2 2<|gl 1 [0]<|sy 1 ?_
   refine .fin ?_
   cases H.out; exact r3 i2 Q (.cons (au Q gJ Q iy (aa 1 Q) Q) .nil)
  refine rg 4 8<|gl 3 [2]<|sy 0 ?_
  refine .fin<|wr 2 2<|gl 1 [0]<|sy 1 ?_
  refine .fin ?_
  cases H.out; exact r3 i2 Q (.cons (au Q gJ Q iy (aa 1 Q) Q) .nil)
 refine wd mX 8 160<|gl 5 [2,2]<|sx 0 Q T Q Q cE sz9 Q Q Q pD ?_
 refine go 1<|sv 0 ?_
 refine .fin<|su [2]<|cf H ?_ ?_ <;> intro H
 ·
  refine WP.skip<|wr 2 2<|gl 1 [0]<|sy 1 ?_
  refine .fin ?_
  cases H.out; exact r3 i2 Q (.cons (au Q gJ Q iy (aa 1 Q) Q) .nil)
 refine rg 4 8<|gl 3 [2]<|sy 0 ?_
 refine .fin<|wr 2 2<|gl 1 [0]<|sy 1 ?_
 refine .fin ?_
 cases H.out; exact r3 i2 Q (.cons (au Q gJ Q iy (aa 1 Q) Q) .nil)
theorem eP.c (h:eP.f k a0=some r):Pt prog 96 [agg (ak.enc a0)] (vB r):=by
 refine pf func96 h fun R0 F H=>?_
 refine wr 2 1<|Dv.box Q T Q cA nofun fun ba=>go 1<|WP.seq<|wd mX 18 0<|kU 4 [0] ?_
 cases cc:decide (a0.aI<0)
 rotate_left
 ·
  have H:=H.ct cc
  refine go 14<|WP.cond Q (fun _=>?_) nofun
  refine sp ?_
  cases H.out; exact ek 1
 have H:=H.cf cc
 refine kU 5 [0] ?_
 cases cg:decide (3<a0.aI)
 rotate_left
 ·
  have H:=H.ct cg
  refine go 9<|WP.cond Q (fun _=>?_) nofun
  refine sp ?_
  cases H.out; exact ek 1
 have H:=H.cf cg
 refine el H fun ta haa H=>Dv.call Q (gg Q) (cL 153) Q (nR.c haa)<|gl 2 [0]<|gr H fun ga H=>Dv.fR Q (gg Q) Q Q U273 KG c201 ga.1 ga.2<|jw Q (gg Q) Q sc201 Q<|gl 1 [0]<|el H fun tc hac H=>Dv.tH (ret:=vB tc) Q (gg Q) Q Q ⟨_,_,hac,Q,Q⟩<|go 2<|ce H ?_ ?_ <;> intro H
 ·
  refine sp ?_
  cases H.out; exact ek 1
 refine WP.skip<|so<|wd mX 22 0<|gl 2 [0,0]<|el H fun te had H=>cl Q (cL 155) Q (mn.c had)<|Dv.eqs [.int .i64 a0.aI,.string a0.ab,.string a0.aj,.string a0.bH,.string a0.ae,.bool a0.aq,.bool a0.kl,.int .i64 a0.bW,.int .i64 a0.aQ,.int .i64 a0.aU,.int .i64 a0.aZ] [.int .i64 te.aI,.string te.ab,.string te.aj,.string te.bH,.string te.ae,.bool te.aq,.bool te.kl,.int .i64 te.bW,.int .i64 te.aQ,.int .i64 te.aU,.int .i64 te.aZ] Q T Q Q Q Q IF (fun _=>lP 2 dc (fun _=>Cp a0 te))<|gp 1 ?_
 cases ci:decide (a0=te)
 ·
  have H:=H.cf ci
  refine gq 17 ?_
  cases H.out; exact ek 1
 have H:=H.ct ci
 refine gl 2 [0]<|el H fun tg hae H=>Dv.call Q (gg Q) (cL 156) Q (mu.c hae)<|gp 2 ?_
 cases cj:tg
 ·
  have H:=H.cf cj
  refine gq 12 ?_
  cases H.out; exact ek 1
 have H:=H.ct cj
 refine gl 3 [0]<|el H fun tj haf H=>Dv.Ki Q (gg Q) Q (cL 154) Q (iM.c haf)<|gp 2 ?_
 cases ck:tj
 ·
  have H:=H.cf ck
  refine gq 6 ?_
  cases H.out; exact ek 1
 have H:=H.ct ck
 refine gl 3 [0]<|el H fun tm hag H=>Dv.Ki Q (gg Q) Q (cL 154) Q (iM.c hag)<|gq 2 ?_
 cases H.out; exact ek 1
theorem lh.c {v0_0:OV} {b0_:Nat} (h:lh.f a0 a1=some r):Tr prog 157 [ey b0_,vS a1] [aE b0_ 265 [vS a0.cM,eq v0_0.1],kW Value.string aX.O v0_0.1 a0.ao] (γ:=Unit) (fun _=>True) (fun g=>lu [agg (Event.enc r.1),vB r.2]) (fun g=>[aE b0_ 265 [vS a0.cM,eq v0_0.1],kW Value.string aX.O v0_0.1 a0.ao]):=by
 refine tf func157 h fun R0 F H=>?_
 refine wr 2 1<|al Q T vM nofun fun ba=>go 1<|WP.seq<|wr 4 0<|go 2<|el H fun ta haa H=>pJ 3 [1,2,0] (cL 144) (eG.c haa (b0_:=b0_) (v0_0:=v0_0)) ?_
 refine go 1<|ce H ?_ ?_ <;> intro H
 ·
  refine wr 3 2<|Dv.kL (qs:=[vS eE,vS eE,dJ,vS eE,vS eE,vI 0]) (css:=[]) Q T kM Gt Es Q T Q Q<|sy 0 ?_
  refine gq 1 ?_
  cases H.out; exact rt i2 Q () 3 [0,1,2] 1 (.cons (nW (au Q kM Q mL (aa 0 Q) Q) (mZ (.cons bV (.cons bV (.cons cU (.cons bV (.cons bV (.cons bV .nil)))))))) (.cons (aB Q) .nil))
 refine WP.skip<|wr 12 1024<|gl 5 [1]<|vg (mH 2 Q) fun za hac=>?_
 refine Dv.GJ jx Q T Q (aa 0 Q) Q wO (dV U9) Bj (fun _=>Q)<|gr H fun ga H=>vg (qK hac Q ga (pm 4 [1,0,2,3])) fun _ _=>?_
 refine Dv.qx aX.nn Q T Q (aa 0 Q)<|vg (aX.jf 0 Q) fun gb had=>?_
 refine fp had Q T Q uv<|gl 1 [0]<|el H fun tc hae H=>cl Q (cL 146) Q (iG.c hae)<|sy 3 ?_
 refine go 1<|wg (aX.shut (p:=((mget (cY a0.ao za) a1).getD jx)) (m:=(mget a0.ao a1).getD default) gb had (pm 5 [0,1,2,3,4])) fun _ _=>?_
 refine wg (oK hac Q ga (pm 5 [0,1,2,3,4])) fun _ _=>?_
 refine wg (iP hac Q (pm 4 [1,0,2,3])) fun _ _=>?_
 cases H.out; exact rt i2 Q () 3 [1,2,0] 1 (.cons (au Q kM Q mL (aa 1 Q) Q) (.cons (aB Q) .nil))
theorem jl.c {v0_0:OV} {b0_:Nat} (h:jl.f a0 a1 a2 a3=some r):Tr prog 97 [ey b0_,vS a1,vS a2,vS a3] [aE b0_ 186 [eq v0_0.1],kW Value.string bn.O v0_0.1 a0.bx] (γ:=Unit) (fun _=>True) (fun g=>vI r) (fun g=>[aE b0_ 186 [eq v0_0.1],kW Value.string bn.O v0_0.1 a0.bx]):=by
 refine tf func97 h fun R0 F H=>?_
 refine so<|wr 5 4<|go 2<|el H fun ta haa H=>cx 2 [0,1] (cL 88) (aO.c haa (b0_:=b0_) (v0_0:=v0_0)) nofun fun va _=>?_
 refine Dv.mkc (fst:=#[va.1]) Q T Q<|go 1<|wr 9 192<|go 2<|vg (bn.jf 2 Q) fun ga hac=>?_
 refine el H fun tc had H=>Dv.GX (fst:=#[va.1]) (B:=[aE ga.1 265 [vS ta.cM,eq ga.2.1],kW Value.string aX.O ga.2.1 ta.ao]) (F:=[aE b0_ 186 [eq v0_0.1],JW Value.string bn.O v0_0.1 a0.bx a1 va]++F) Q T Q (cL 157) Q (Tr.kn (lh.c had (b0_:=ga.1) (v0_0:=ga.2)) (.cons (iX hac) (.cons bV .nil))) (ly (L:=[aE ga.1 265 [vS ta.cM,eq ga.2.1],kW Value.string aX.O ga.2.1 ta.ao,aE b0_ 186 [eq v0_0.1],JW Value.string bn.O v0_0.1 a0.bx a1 va]) (F:=F) [0,1,2,3] Q Q Q)<|go 1<|eF Q T Q Q<|eF Q T Q Q<|al Q T vM nofun fun ba=>sy 0 ?_
 refine go 1<|WP.seq<|WP.block<|so<|ce H ?_ ?_ <;> intro H
 ·
  refine so<|wg (bn.shut (p:=va) (m:=ta) (ga.1,ga.2) hac (pm 5 [1,2,0,3,4])) fun _ _=>?_
  refine wg (fH (aO.r haa) (pm 4 [3,0,1,2])) fun _ _=>?_
  cases H.out; exact et () 3 [1,2,0] 1
 refine WP.seq<|so<|ce H ?_ ?_ <;> intro H
 ·
  refine WP.skip<|ce H ?_ ?_ <;> intro H
  ·
   refine so<|wg (bn.shut (p:=va) (m:=ta) (ga.1,ga.2) hac (pm 5 [1,2,0,3,4])) fun _ _=>?_
   refine wg (fH (aO.r haa) (pm 4 [3,0,1,2])) fun _ _=>?_
   cases H.out; exact et () 3 [1,2,0] 1
  refine WP.skip<|so<|wg (bn.shut (p:=va) (m:=ta) (ga.1,ga.2) hac (pm 5 [1,2,0,3,4])) fun _ _=>?_
  refine wg (fH (aO.r haa) (pm 4 [3,0,1,2])) fun _ _=>?_
  cases H.out; exact et () 3 [1,2,0] 1
 refine wr 8 0<|gp 3 ?_
 cases cc:decide (a3=(⟨#[109,97,105,110]⟩:BA))
 ·
  have H:=H.cf cc
  refine go 5<|WP.cond Q nofun (fun _=>?_)
  refine so<|ce H ?_ ?_ <;> intro H
  ·
   refine WP.skip<|ce H ?_ ?_ <;> intro H
   ·
    refine so<|wg (bn.shut (p:=va) (m:=ta) (ga.1,ga.2) hac (pm 5 [1,2,0,3,4])) fun _ _=>?_
    refine wg (fH (aO.r haa) (pm 4 [3,0,1,2])) fun _ _=>?_
    cases H.out; exact et () 3 [1,2,0] 1
   refine WP.skip<|so<|wg (bn.shut (p:=va) (m:=ta) (ga.1,ga.2) hac (pm 5 [1,2,0,3,4])) fun _ _=>?_
   refine wg (fH (aO.r haa) (pm 4 [3,0,1,2])) fun _ _=>?_
   cases H.out; exact et () 3 [1,2,0] 1
  refine rg 5 0<|gl 5 [0]<|ce H ?_ ?_ <;> intro H
  ·
   refine so<|wg (bn.shut (p:=va) (m:=ta) (ga.1,ga.2) hac (pm 5 [1,2,0,3,4])) fun _ _=>?_
   refine wg (fH (aO.r haa) (pm 4 [3,0,1,2])) fun _ _=>?_
   cases H.out; exact et () 3 [1,2,0] 1
  refine WP.skip<|so<|wg (bn.shut (p:=va) (m:=ta) (ga.1,ga.2) hac (pm 5 [1,2,0,3,4])) fun _ _=>?_
  refine wg (fH (aO.r haa) (pm 4 [3,0,1,2])) fun _ _=>?_
  cases H.out; exact et () 3 [1,2,0] 1
 have H:=H.ct cc
 refine gl 5 [0]<|ce H ?_ ?_ <;> intro H
 ·
  refine WP.skip<|ce H ?_ ?_ <;> intro H
  ·
   refine so<|wg (bn.shut (p:=va) (m:=ta) (ga.1,ga.2) hac (pm 5 [1,2,0,3,4])) fun _ _=>?_
   refine wg (fH (aO.r haa) (pm 4 [3,0,1,2])) fun _ _=>?_
   cases H.out; exact et () 3 [1,2,0] 1
  refine WP.skip<|so<|wg (bn.shut (p:=va) (m:=ta) (ga.1,ga.2) hac (pm 5 [1,2,0,3,4])) fun _ _=>?_
  refine wg (fH (aO.r haa) (pm 4 [3,0,1,2])) fun _ _=>?_
  cases H.out; exact et () 3 [1,2,0] 1
 refine so<|ce H ?_ ?_ <;> intro H
 ·
  refine WP.skip<|ce H ?_ ?_ <;> intro H
  ·
   refine so<|wg (bn.shut (p:=va) (m:=ta) (ga.1,ga.2) hac (pm 5 [1,2,0,3,4])) fun _ _=>?_
   refine wg (fH (aO.r haa) (pm 4 [3,0,1,2])) fun _ _=>?_
   cases H.out; exact et () 3 [1,2,0] 1
  refine WP.skip<|so<|wg (bn.shut (p:=va) (m:=ta) (ga.1,ga.2) hac (pm 5 [1,2,0,3,4])) fun _ _=>?_
  refine wg (fH (aO.r haa) (pm 4 [3,0,1,2])) fun _ _=>?_
  cases H.out; exact et () 3 [1,2,0] 1
 refine rg 5 0<|gl 5 [0]<|ce H ?_ ?_ <;> intro H
 ·
  refine so<|wg (bn.shut (p:=va) (m:=ta) (ga.1,ga.2) hac (pm 5 [1,2,0,3,4])) fun _ _=>?_
  refine wg (fH (aO.r haa) (pm 4 [3,0,1,2])) fun _ _=>?_
  cases H.out; exact et () 3 [1,2,0] 1
 refine WP.skip<|so<|wg (bn.shut (p:=va) (m:=ta) (ga.1,ga.2) hac (pm 5 [1,2,0,3,4])) fun _ _=>?_
 refine wg (fH (aO.r haa) (pm 4 [3,0,1,2])) fun _ _=>?_
 cases H.out; exact et () 3 [1,2,0] 1
theorem bY.c (h:bY.f k a0 a1=some r):Pt prog 226 [sl ak.K a0,agg (ak.enc a1)] (vI r):=by
 refine pf func226 h fun R0 F H=>?_
 refine wr 2 1<|Dv.box Q T Q cA nofun fun ba=>go 1<|sr H id [] (fun _=>[]) (fun _=>[]) (fun pa H=>?_) (fun H=>?_)
 ·
  refine sp ?_
  cases H.out; exact ek 1
 refine wr 3 0<|go 1<|Dv.fk Q T Q eX<|go 1<|WP.block<|ws 1 [0] 0 ?_
 refine lq (fun j_ (pc:Int)=>bY.l0 k a0 a1 j_ pc) 0 H [0,3,7] (fun pc=>[(8,vI pc)]) (fun _=>[]) ?_
 rintro j_ xc H
 rcases j_ with _ | ja
 ·
  exact (aS.no H).elim
 try dsimp only at H
 rw [bY.l0] at H
 refine so<|WP.seq<|cf H ?_ ?_ <;> intro H
 ·
  refine WP.exit ?_
  have H:=H.out
  exact jn (xc,decide (xc<(a0.length:Int))) H
 refine WP.skip<|WP.seq<|WP.block<|so<|wd mX 6 0<|gl 3 [0]<|gr H fun ga H=>Dv.fR Q T Q Q eX gJ iy ga.1 ga.2<|lr Q T Q uR Q<|Dv.eqs [.int .i64 a1.aI,.string a1.ab,.string a1.aj,.string a1.bH,.string a1.ae,.bool a1.aq,.bool a1.kl,.int .i64 a1.bW,.int .i64 a1.aQ,.int .i64 a1.aU,.int .i64 a1.aZ] [.int .i64 ((ak.K.at a0 xc).aI),.string ((ak.K.at a0 xc).ab),.string ((ak.K.at a0 xc).aj),.string ((ak.K.at a0 xc).bH),.string ((ak.K.at a0 xc).ae),.bool ((ak.K.at a0 xc).aq),.bool ((ak.K.at a0 xc).kl),.int .i64 ((ak.K.at a0 xc).bW),.int .i64 ((ak.K.at a0 xc).aQ),.int .i64 ((ak.K.at a0 xc).aU),.int .i64 ((ak.K.at a0 xc).aZ)] Q T Q Q Q Q IF (fun _=>lP 2 dc (fun _=>Cp a1 (ak.K.at a0 xc)))<|.fin<|cf H ?_ ?_ <;> intro H
 ·
  exact WP.skip<|rg 2 0<|go 2<|bk ja (av (xc+1)) H
 refine sp ?_
 have H:=H.fg
 cases H.out; exact ek 1
theorem fj.c (h:fj.f k a0 a1=some r):Pt prog 158 [sl ak.K a0,agg (ak.enc a1)] (vB r):=by
 refine pf func158 h fun R0 F H=>?_
 refine wr 2 1<|Dv.box Q T Q cA nofun fun ba=>go 1<|wr 5 0<|gl 2 [0]<|el H fun ta haa H=>cl Q (cL 226) Q (bY.c haa)<|gq 2 ?_
 cases H.out; exact ek 1
theorem fb.c {a1 a2:Int} {p0_:OV} (h:fb.f a0 a1 a2=some r):Tr prog 159 [eq p0_.1,vI a1,vI a2] [own ak.K p0_.1 a0] (γ:=OV) (fun _=>True) (fun g=>eq g.1) (fun g=>[own ak.K g.1 r]):=by
  unfold fb.f at h
  obtain ⟨⟨h1,h2,h3⟩,h5⟩:=(aS.of h).an
  obtain rfl:=aS.out h5
  clear h h5
  obtain ⟨i,rfl⟩:=Int.eq_ofNat_of_zero_le h1
  obtain ⟨j,rfl⟩:=Int.eq_ofNat_of_zero_le (show (0:Int)≤a2 by omega)
  have hij:i≤j:=om
  have hj:j≤a0.length:=om
  obtain ⟨v,hv⟩:=p0_
  rw [Int.toNat_natCast,Int.toNat_natCast]
  refine Tr.body func159 (c:=_) Q ntmps159 (Nat.le_of_ble_eq_true Q) fun R0 F=>?_
  refine so<|wr 6 0<|go 4<|Dv.ko (Kd:=ak.K) (xs:=a0) (v:=v) Q T Q (aa 0 Q) eX<|Dv.sl3 (Kd:=ak.K) Q T Q (aa 0 Q) eX gJ iy (eT Q) (eT Q) (eT Q) hij hj<|.fin<|WP.seq<|so<|WP.cond Q (fun c0=>?_) (fun c0=>?_)
  · have e1:i=j:=by have:=beq_iff_eq.1 c0; omega
    subst e1
    rw [List.take_append_drop]
    refine sp ?_
    exact WP.BH (fun _ _ h=>h) Q (⟨v,hv⟩:OV) T (.cons (aB Q) .nil) Q (wc (L:=[own ak.K v a0]) (F:=F) [0] 0 Q Q Q)
  have hlt:i<j:=by
    have:¬ ((i:Int)=(j:Int)):=by simpa using c0
    omega
  have hzl:(a0.take i++a0.drop j++a0.drop (i+(a0.length-j))).length=a0.length:=by simp only [List.length_append,List.length_take,List.length_drop]; omega
  have hpl:(i+(a0.length-j))<(a0.take i++a0.drop j++a0.drop (i+(a0.length-j))).length:=by rw [hzl]; omega
  have hfin:((a0.take i++a0.drop j++a0.drop (i+(a0.length-j))).take (i+(a0.length-j))++List.replicate ((a0.take i++a0.drop j++a0.drop (i+(a0.length-j))).length-(i+(a0.length-j))) (⟨0,eE,eE,eE,eE,false,false,0,0,0,0⟩:ak)).take (i+(a0.length-j))=a0.take i++a0.drop j:=by
    have hl:(a0.take i++a0.drop j).length=(i+(a0.length-j)):=by rw [List.length_append,List.length_take,List.length_drop]; omega
    rw [List.take_append,List.take_take,Nat.min_self,List.take_left' hl]
    have:(i+(a0.length-j))-(a0.take i++a0.drop j).length=0:=om
    rw [this,List.take_zero,List.append_nil]
  refine WP.skip<|wr 3 0<|go 1<|Dv.ko (Kd:=ak.K) (xs:=a0) (v:=v) Q T Q (aa 0 Q) eX<|go 1<|wd mX 8 64<|go 2<|Dv.slpf (Kd:=ak.K) Q T Q (aa 0 Q) eX gJ iy (eT Q) (Nat.le_trans hij hj)<|go 2<|Dv.slt (Kd:=ak.K) (p:=j) Q T Q (aa 0 Q) eX gJ iy (eT Q) hj<|Dv.apt (Kd:=ak.K) (jj:=0) Q T Q Q Q eX eX gJ iy ⟨hlt,hj⟩ (fun _=>fO kr)<|gq 1 ?_
  refine wr 6 32<|go 2<|Dv.lenp (Kd:=ak.K) (xs:=(a0.take i++a0.drop j++a0.drop (i+(a0.length-j)))) Q T Q (aa 0 Q) eX<|go 1<|Dv.slpt (Kd:=ak.K) (xs:=(a0.take i++a0.drop j++a0.drop (i+(a0.length-j)))) (p:=(i+(a0.length-j))) (q:=a0.length) Q T Q (aa 0 Q) eX gJ iy (eT Q) (eT Q) om (Nat.le_of_eq hzl.symm)<|Dv.clrt (Kd:=ak.K) (jj:=0) (⟨0,eE,eE,eE,eE,false,false,0,0,0,0⟩:ak) Q T ((show opv _ _=some (eq (tlv _ v a0.length (i+(a0.length-j)))) from Q).trans (congrArg (fun z=>some (eq (tlv _ v z (i+(a0.length-j))))) hzl.symm)) eX wm Q Q (fun u hu=>List.all_eq_true.1 (show (Value.cells _).toList.all (fun u=>u.oneCell')=true by kernel_rfl) u hu) hpl Q nofun<|.fin<|sp ?_
  refine WP.gh (l':=fun _:Unit=>[own ak.K (pfv v (i+(a0.length-j))) (a0.take i++a0.drop j)]++F) (jk (ok:=fun _=>True) (fun R w h=>by obtain ⟨_,_,h2⟩:=Gn (m:=(i+(a0.length-j))) 0 rfl (by rw [List.length_append,List.length_take,List.length_replicate]; omega) R w h; rw [hfin] at h2; exact ⟨(),T,h2⟩)) (fun _ _=>?_)
  exact WP.BH (fun _ _ h=>h) Q (⟨pfv v (i+(a0.length-j)),CW hv⟩:OV) T (.cons (aB Q) .nil) Q (wc (L:=[own ak.K (pfv v (i+(a0.length-j))) (a0.take i++a0.drop j)]) (F:=F) [0] 0 Q Q Q)
theorem jZ.c {p0_:OV} (h:jZ.f k a0 a1=some r):Tr prog 98 [eq p0_.1,agg (ak.enc a1)] [jH.O p0_ a0] (γ:=Unit) (fun _=>True) (fun g=>lu [agg (ak.enc r.1),vB r.2.1]) (fun g=>[jH.O p0_ r.2.2]):=by
 refine tf func98 h fun R0 F H=>?_
 refine wr 3 3<|Dv.box Q T Q cA nofun fun ba=>al Q T wa nofun fun bc=>go 1<|WP.seq<|WP.seq<|wg (jH.jf 2 Q) fun ga haa=>?_
 refine dg mX 6 0<|go 1<|Dv.bU haa Q T Q<|fp haa Q T Q o4<|gl 2 [0,3]<|el H fun ta hac H=>pJ (B:=[own ak.K ga.2.1 a0.fl]) 4 [1,0,2,3] (cL 158) (Pt.wT _ (fj.c hac) (.cons (pq (aa 0 Q)) (.cons q7 .nil)) lM) ?_
 refine .fin<|ce H ?_ ?_ <;> intro H
 ·
  refine wr 3 2<|Dv.kL (qs:=[vI 0,vS eE,vS eE,vS eE,vS eE,vB false,vB false,vI 0,vI 0,vI 0,vI 0]) (css:=[]) Q T gJ Cc wm Q T Q Q<|sy 2 ?_
  refine go 1<|wg (jH.shut (p:=p0_) (m:=a0) (ga.1,ga.2) haa (pm 4 [0,1,2,3])) fun _ _=>?_
  cases H.out; exact rt i2 Q () 3 [1,2,0] 2 (.cons (au Q gJ Q iy (aa 1 Q) Q) (.cons (aB Q) .nil))
 refine WP.skip<|wd mX 11 1152<|go 2<|Dv.bU haa Q T Q<|fp haa Q T Q o4<|gl 2 [0,3]<|Dv.lit ak.K ([a1]:List ak) (css:=[ak.enc a1]) Q T eX gJ iy wm Q dc dc Q ⟨(aR (ak.K.one _)),T⟩ Q Q Q<|gr H fun gb H=>Dv.E5 (Kd:=ak.K) (jj:=1) (ys:=([a1]:List ak)) (fun va:OV=>[aE ga.1 247 [vI a0.eb,eq ga.2.1,vI a0.qZ],own ak.K va.1 (a0.fl++([a1]:List ak)),aE bc 52 [vI 0,vS eE,vS eE,vS eE,vS eE,vB false,vB false,vI 0,vI 0,vI 0,vI 0],aE ba 52 (ak.enc a1)]++F) Q T Q Q Q bD eX (.inr ⟨_,eX⟩) nO Q dc gb Q pD (fun va=>?_)
 refine Dv.bU haa Q T Q<|fp haa Q T Q o4<|sx 0 Q T Q Q (cells_one bG) r8 Q Q Q pB ?_
 refine .fin<|WP.seq<|wd mX 10 0<|go 1<|Dv.bU haa Q T Q<|fp haa Q T Q o4<|gl 1 [0]<|Dv.ko Q T Q (aa 1 Q) eX<|go 1<|Dv.bU haa Q T Q<|fp haa Q T Q I5<|gl 2 [0]<|ce H ?_ ?_ <;> intro H
 ·
  refine wr 3 2<|Dv.kL (qs:=[vI 0,vS eE,vS eE,vS eE,vS eE,vB false,vB false,vI 0,vI 0,vI 0,vI 0]) (css:=[]) Q T gJ Cc wm Q T Q Q<|sy 2 ?_
  refine go 1<|wg (jH.shut (p:=p0_) (m:=(⟨a0.eb,a0.fl++([a1]:List ak),a0.qZ⟩:jH)) (ga.1,va) haa (pm 4 [0,1,2,3])) fun _ _=>?_
  cases H.out; exact rt i2 Q () 3 [1,2,0] 2 (.cons (au Q gJ Q iy (aa 1 Q) Q) (.cons (aB Q) .nil))
 refine WP.skip<|wr 8 192<|go 1<|Dv.bU haa Q T Q<|fp haa Q T Q o4<|gl 1 [0]<|gr H fun gi H=>?_
 have had:(0:Int).toNat<(a0.fl++([a1]:List ak)).length:=bp gi
 refine Dv.jX Q T Q (aa 1 Q) Q eX gJ iy gi.1 gi.2<|Dv.pM (j:=((0:Int).toNat)) (f:=0) Q T Q (aa 1 Q) had gJ Q iy (Nat.le_of_ble_eq_true Q)<|al Q T wa nofun fun bd=>sy 0 ?_
 refine .fin<|wr 9 288<|go 2<|Dv.bU haa Q T Q<|fp haa Q T Q o4<|gl 1 [1]<|el H fun tc hae H=>cx 5 [2,0,1,3,4] (cL 159) (fb.c hae (p0_:=va)) nofun fun gj _=>?_
 refine Dv.bU haa Q T Q<|fp haa Q T Q o4<|sx 2 Q T Q Q (cells_one bG) r8 Q Q Q nofun ?_
 refine .fin<|wr 8 128<|go 1<|Dv.bU haa Q T Q<|fp haa Q T Q CG<|gl 2 [2]<|Dv.bU haa Q T Q<|fp haa Q T Q CG<|sy 2 ?_
 refine .fin<|wr 3 2<|gl 1 [1]<|sy 3 ?_
 refine go 1<|wg (jH.shut (p:=p0_) (m:=(⟨a0.eb,tc,av (a0.qZ+1)⟩:jH)) (ga.1,gj) haa (pm 5 [2,0,1,3,4])) fun _ _=>?_
 cases H.out; exact rt i2 Q () 4 [1,2,3,0] 3 (.cons (au Q gJ Q iy (aa 2 Q) Q) (.cons (aB Q) .nil))
theorem hJ.c {v0_0:OV} {b0_:Nat} (h:hJ.f a0 a1=some r):Tr prog 160 [ey b0_,vS a1] [aE b0_ 265 [vS a0.cM,eq v0_0.1],kW Value.string aX.O v0_0.1 a0.ao] (γ:=Unit) (fun _=>True) (fun g=>lu [agg (Pos.enc r.1),vB r.2]) (fun g=>[aE b0_ 265 [vS a0.cM,eq v0_0.1],kW Value.string aX.O v0_0.1 a0.ao]):=by
 refine tf func160 h fun R0 F H=>?_
 refine wr 2 1<|al Q T tY nofun fun ba=>go 1<|WP.seq<|wr 4 0<|go 2<|el H fun ta haa H=>pJ 3 [1,2,0] (cL 144) (eG.c haa (b0_:=b0_) (v0_0:=v0_0)) ?_
 refine go 1<|ce H ?_ ?_ <;> intro H
 ·
  refine wr 3 2<|Dv.kL (qs:=[vI 0,vS eE]) (css:=[]) Q T uB FR IA Q T Q Q<|sy 0 ?_
  refine gq 1 ?_
  cases H.out; exact rt i2 Q () 3 [0,1,2] 1 (.cons (au Q uB Q Az (aa 0 Q) Q) (.cons (aB Q) .nil))
 refine WP.skip<|wr 13 2048<|gl 5 [1]<|vg (mH 2 Q) fun za hac=>?_
 refine Dv.GJ jx Q T Q (aa 0 Q) Q wO (dV U9) Bj (fun _=>Q)<|gr H fun ga H=>vg (qK hac Q ga (pm 4 [1,0,2,3])) fun _ _=>?_
 refine Dv.qx aX.nn Q T Q (aa 0 Q)<|vg (aX.jf 0 Q) fun gb had=>?_
 refine fp had Q T Q zB<|gl 2 [0]<|Dv.kL (qs:=[vI (((mget a0.ao a1).getD default).cI),vS a1]) (css:=[[vI (((mget a0.ao a1).getD default).cI)],[vS a1]]) Q T uB FR IA Q ⟨(cells_one (ah Q)),⟨(cells_one (ah Q)),T⟩⟩ Q Q<|sy 3 ?_
 refine go 1<|wg (aX.shut (p:=((mget (cY a0.ao za) a1).getD jx)) (m:=(mget a0.ao a1).getD default) gb had (pm 5 [0,1,2,3,4])) fun _ _=>?_
 refine wg (oK hac Q ga (pm 5 [0,1,2,3,4])) fun _ _=>?_
 refine wg (iP hac Q (pm 4 [1,0,2,3])) fun _ _=>?_
 cases H.out; exact rt i2 Q () 3 [1,2,0] 1 (.cons (au Q uB Q Az (aa 1 Q) Q) (.cons (aB Q) .nil))
theorem fG.c {v0_0:OV} {b0_:Nat} (h:fG.f a0 a1 a2=some r):Tr prog 99 [ey b0_,vS a1,vS a2] [aE b0_ 186 [eq v0_0.1],kW Value.string bn.O v0_0.1 a0.bx] (γ:=Unit) (fun _=>True) (fun g=>lu [agg (Pos.enc r.1),vB r.2]) (fun g=>[aE b0_ 186 [eq v0_0.1],kW Value.string bn.O v0_0.1 a0.bx]):=by
 refine tf func99 h fun R0 F H=>?_
 refine wr 2 1<|al Q T tY nofun fun ba=>go 1<|wr 9 132<|go 2<|el H fun ta haa H=>cx 3 [1,2,0] (cL 88) (aO.c haa (b0_:=b0_) (v0_0:=v0_0)) nofun fun va _=>?_
 refine go 1<|vg (bn.jf 2 Q) fun ga hac=>?_
 refine el H fun tc had H=>pJ 5 [0,1,2,3,4] (cL 160) (Tr.kn (hJ.c had (b0_:=ga.1) (v0_0:=ga.2)) (.cons (iX hac) (.cons bV .nil))) ?_
 refine eF Q T Q Q<|eF Q T Q Q<|sy 4 ?_
 refine go 1<|wg (bn.shut (p:=va) (m:=ta) (ga.1,ga.2) hac (pm 5 [0,1,2,3,4])) fun _ _=>?_
 refine wg (fH (aO.r haa) (pm 4 [2,0,1,3])) fun _ _=>?_
 cases H.out; exact rt i2 Q () 3 [2,1,0] 1 (.cons (au Q uB Q Az (aa 2 Q) Q) (.cons (aB Q) .nil))
theorem cmp_isNaN_string.c (h:cmp_isNaN_string.f a0=some r):Pt prog 132 [vS a0] (vB r):=by
 refine pf func132 h fun R0 F H=>?_
 refine so<|sp ?_
 cases H.out; exact ek 0
theorem aD.c (h:aD.f a0 a1=some r):Pt prog 65 [vS a0,vS a1] (vI r):=by
 refine pf func65 h fun R0 F H=>?_
 refine so<|wr 3 0<|go 1<|el H fun ta haa H=>cl Q (cL 132) Q (cmp_isNaN_string.c haa)<|go 1<|wr 3 0<|go 1<|el H fun tc hac H=>cl Q (cL 132) Q (cmp_isNaN_string.c hac)<|go 1<|WP.seq<|so<|ce H ?_ ?_ <;> intro H
 ·
  refine WP.seq<|so<|ce H ?_ ?_ <;> intro H
  ·
   refine sp ?_
   cases H.out; exact ek 0
  refine WP.skip<|sp ?_
  cases H.out; exact ek 0
 refine WP.skip<|WP.seq<|so<|ce H ?_ ?_ <;> intro H
 ·
  refine sp ?_
  cases H.out; exact ek 0
 refine WP.skip<|WP.seq<|so<|ce H ?_ ?_ <;> intro H
 ·
  refine sp ?_
  cases H.out; exact ek 0
 refine WP.skip<|WP.seq<|so<|ce H ?_ ?_ <;> intro H
 ·
  refine sp ?_
  cases H.out; exact ek 0
 refine WP.skip<|sp ?_
 cases H.out; exact ek 0
theorem bE.c (h:bE.f k a0=some r):Pt prog 128 [sl (bq .i64) a0] (vI r):=by
 refine pf func128 h fun R0 F H=>?_
 refine so<|so<|sr H id [3] (fun _=>[]) (fun _=>[]) (fun pa H=>?_) (fun H=>?_)
 ·
  refine sp ?_
  cases H.out; exact ek 0
 refine wr 3 0<|go 1<|Dv.fk Q T Q oU<|go 1<|WP.block<|ws 0 [] 0 ?_
 refine lq (fun j_ (pc:Int)=>bE.l0 k a0 j_ pc) 0 H [3,6,7] (fun pc=>[(8,vI pc)]) (fun _=>[]) ?_
 rintro j_ xc H
 rcases j_ with _ | ja
 ·
  exact (aS.no H).elim
 try dsimp only at H
 rw [bE.l0] at H
 refine so<|WP.seq<|cf H ?_ ?_ <;> intro H
 ·
  refine WP.exit ?_
  have H:=H.out
  exact jn (xc,decide (xc<(a0.length:Int))) H
 refine WP.skip<|WP.seq<|WP.block<|wr 3 0<|gr H fun ga H=>Dv.fR Q T Q Q oU U3 c3 ga.1 ga.2<|jw Q T Q wu Q<|go 1<|so<|cf H ?_ ?_ <;> intro H
 ·
  exact WP.skip<|rg 2 0<|go 2<|bk ja (av (xc+1)) H
 refine sp ?_
 have H:=H.fg
 cases H.out; exact ek 0
theorem cmp_isNaN_int.c (h:cmp_isNaN_int.f a0=some r):Pt prog 193 [vI a0] (vB r):=by
 refine pf func193 h fun R0 F H=>?_
 refine so<|sp ?_
 cases H.out; exact ek 0
theorem b7.c (h:b7.f a0 a1=some r):Pt prog 129 [vI a0,vI a1] (vI r):=by
 refine pf func129 h fun R0 F H=>?_
 refine so<|wr 3 0<|go 1<|el H fun ta haa H=>cl Q (cL 193) Q (cmp_isNaN_int.c haa)<|go 1<|wr 3 0<|go 1<|el H fun tc hac H=>cl Q (cL 193) Q (cmp_isNaN_int.c hac)<|go 1<|WP.seq<|so<|ce H ?_ ?_ <;> intro H
 ·
  refine WP.seq<|so<|ce H ?_ ?_ <;> intro H
  ·
   refine sp ?_
   cases H.out; exact ek 0
  refine WP.skip<|sp ?_
  cases H.out; exact ek 0
 refine WP.skip<|WP.seq<|so<|ce H ?_ ?_ <;> intro H
 ·
  refine sp ?_
  cases H.out; exact ek 0
 refine WP.skip<|WP.seq<|so<|ce H ?_ ?_ <;> intro H
 ·
  refine sp ?_
  cases H.out; exact ek 0
 refine WP.skip<|WP.seq<|so<|ce H ?_ ?_ <;> intro H
 ·
  refine sp ?_
  cases H.out; exact ek 0
 refine WP.skip<|sp ?_
 cases H.out; exact ek 0
theorem iO.c (h:iO.f k a0 a1=some r):Pt prog 161 [agg (Pos.enc a0),agg (Pos.enc a1)] (vI r):=by
 refine pf func161 h fun R0 F H=>?_
 refine wr 3 3<|Dv.box Q T Q cA nofun fun ba=>Dv.box Q T Q cA nofun fun bc=>go 1<|wd mX 13 0<|gl 4 [1,0]<|el H fun ta haa H=>cl Q (cL 129) Q (b7.c haa)<|gl 4 [1,0]<|el H fun tc hac H=>cl Q (cL 65) Q (aD.c hac)<|Dv.lit (bq .i64) ([ta,tc]:List Int) (css:=[[vI ta],[vI tc]]) Q T oU U3 c3 z3 Q dc dc Q ⟨(cells_one (ah Q)),⟨(cells_one (ah Q)),T⟩⟩ Q Q Q<|el H fun te had H=>cl Q (cL 128) Q (bE.c had)<|gq 1 ?_
 cases H.out; exact ek 2
theorem gB.c {p0_:OV} (h:gB.f k a0 a1 a2=some r):Tr prog 100 [eq p0_.1,agg (bB.enc a1),agg (Pos.enc a2)] [j8.O p0_ a0] (γ:=Unit) (fun _=>True) (fun g=>vB r.1) (fun g=>[j8.O p0_ r.2]):=by
 refine tf func100 h fun R0 F H=>?_
 refine wr 3 3<|Dv.box Q T Q cA nofun fun ba=>Dv.box Q T Q cA nofun fun bc=>go 1<|WP.seq<|wg (j8.jf 2 Q) fun ga haa=>?_
 refine dg mX 12 1536<|go 1<|Dv.bU haa Q T Q<|fp haa Q T Q uk<|gl 2 [0,3]<|Dv.mlkq (⟨0,eE⟩:Pos) Q T Q (aa 1 Q) Q (bB.kq a1) GK Dm IA (fun _=>⟨_,Q,Cs.eqz Q⟩)<|go 1<|eF Q T Q Q<|eF Q T Q Q<|al Q T tY pD fun bd=>sx 0 Q T Q Q cA Hg Q Q Q pD ?_
 refine go 1<|WP.seq<|wr 7 0<|gp 2 ?_
 cases cc:(mget a0.iU a1).isSome
 ·
  have H:=H.cf cc
  refine go 5<|WP.cond Q nofun (fun _=>?_)
  refine WP.skip<|wd mX 7 64<|go 1<|Dv.bU haa Q T Q<|fp haa Q T Q uk<|gl 3 [1,4,3]<|Dv.mupq (jj:=2) a2 Q T Q Q Q (bB.kq a1) Q GK Dm (fun _=>fO kr)<|.fin<|so<|wg (j8.shut (p:=p0_) (m:=(⟨mput a0.iU a1 a2⟩:j8)) (ga.1,ga.2) haa (pm 5 [1,2,0,3,4])) fun _ _=>?_
  cases H.out; exact et () 4 [1,2,3,0] 3
 have H:=H.ct cc
 refine gl 2 [0,3]<|el H fun ta hac H=>Dv.call Q (gg Q) (cL 161) Q (iO.c hac)<|go 2<|ce H ?_ ?_ <;> intro H
 ·
  refine so<|wg (j8.shut (p:=p0_) (m:=a0) (ga.1,ga.2) haa (pm 5 [1,2,0,3,4])) fun _ _=>?_
  cases H.out; exact et () 4 [1,2,3,0] 3
 refine WP.skip<|wd mX 7 64<|go 1<|Dv.bU haa Q T Q<|fp haa Q T Q uk<|gl 3 [1,4,3]<|Dv.mupq (jj:=2) a2 Q T Q Q Q (bB.kq a1) Q GK Dm (fun _=>fO kr)<|.fin<|so<|wg (j8.shut (p:=p0_) (m:=(⟨mput a0.iU a1 a2⟩:j8)) (ga.1,ga.2) haa (pm 5 [1,2,0,3,4])) fun _ _=>?_
 cases H.out; exact et () 4 [1,2,3,0] 3
theorem qA.c (h:qA.f a0=some r):Pt prog 101 [agg (ak.enc a0)] (agg (bB.enc r)):=by
 refine pf func101 h fun R0 F H=>?_
 refine wr 2 3<|Dv.box Q T Q cA nofun fun ba=>al Q T zc89 nofun fun bc=>.fin<|wr 10 512<|gl 8 [1,1,1,1]<|Dv.kL (qs:=[vS a0.ab,vS a0.aj,vS a0.ae,vB a0.aq]) (css:=[[vS a0.ab],[vS a0.aj],[vS a0.ae],[vB a0.aq]]) Q T Iw JE z89 Q ⟨(cells_one (ah Q)),⟨(cells_one (ah Q)),⟨(cells_one (ah Q)),⟨(cells_one (ah Q)),T⟩⟩⟩⟩ Q Q<|sy 0 ?_
 refine .fin ?_
 cases H.out; exact r2 i2 Q (.cons (au Q Iw Q LG (aa 0 Q) Q) .nil)
theorem iF.c {p0_ p1_:OV} (h:iF.f k a0 a1 a2=some r):Tr prog 39 [eq p0_.1,eq p1_.1,agg (ak.enc a2)] [j7.O p0_ a0,aN.O p1_ a1] (γ:=Unit) (fun _=>True) (fun g=>lu [vB r.1,vI r.2.1]) (fun g=>[j7.O p0_ r.2.2,aN.O p1_ a1]):=by
 refine tf func39 h fun R0 F H=>?_
 refine wr 3 1<|Dv.box Q T Q cA nofun fun ba=>go 2<|WP.seq<|wr 8 0<|kU 4 [0] ?_
 cases cc:(a2.aI != 1)
 rotate_left
 ·
  have H:=H.ct cc
  refine go 4<|WP.cond Q (fun _=>?_) nofun
  refine sp ?_
  cases H.out; exact et () 3 [0,1,2] 1
 have H:=H.cf cc
 refine gl 1 [0]<|el H fun ta haa H=>Dv.call Q (gg Q) (cL 96) Q (eP.c haa)<|go 2<|ce H ?_ ?_ <;> intro H
 ·
  refine sp ?_
  cases H.out; exact et () 3 [0,1,2] 1
 refine WP.skip<|WP.seq<|wr 9 0<|gl 7 [0,0,0]<|vg (aN.jf 2 Q) fun ga hac=>?_
 refine el H fun tc had H=>pJ 4 [0,1,2,3] (cL 97) (Tr.kn (jl.c had (b0_:=ga.1) (v0_0:=ga.2)) (.cons (iX hac) (.cons bV (.cons bV (.cons bV .nil))))) ?_
 refine go 1<|so<|WP.block<|so<|ce H ?_ ?_ <;> intro H
 ·
  refine WP.seq<|wg (j7.jf 3 Q) fun gb hae=>?_
  refine dg mX 6 32<|go 1<|Dv.bU hae Q T Q<|fp hae Q T Q IS<|gl 2 [0,5]<|el H fun te haf H=>cx 6 [2,0,1,3,4,5] (cL 98) (jZ.c haf (p0_:=gb.2.2)) pC fun _ _=>?_
  refine .fin<|so<|wg (aN.shut (p:=p1_) (m:=a1) (ga.1,ga.2) hac (pm 6 [3,4,0,1,2,5])) fun _ _=>?_
  refine wg (j7.shut (p:=p0_) (m:=(⟨a0.qt,te.2.2⟩:j7)) (gb.1,gb.2.1,gb.2.2) hae (pm 5 [2,3,1,0,4])) fun _ _=>?_
  cases H.out; exact et () 3 [2,0,1] 1
 refine so<|cf H ?_ ?_ <;> intro H
 ·
  refine so<|wg (aN.shut (p:=p1_) (m:=a1) (ga.1,ga.2) hac (pm 4 [0,1,2,3])) fun _ _=>?_
  cases H.out; exact et () 3 [1,2,0] 1
 refine WP.skip<|wr 12 1536<|gl 5 [2,2]<|el H fun tg hag H=>pJ 4 [0,1,2,3] (cL 99) (Tr.kn (fG.c hag (b0_:=ga.1) (v0_0:=ga.2)) (.cons (iX hac) (.cons bV (.cons bV .nil)))) ?_
 refine go 1<|eF Q T Q Q<|eF Q T Q Q<|al Q T tY nofun fun bc=>sy 0 ?_
 refine go 1<|WP.seq<|wg (j7.jf 4 Q) fun gi hah=>?_
 refine dg mX 10 128<|go 1<|Dv.bU hah Q T Q<|fp hah Q T Q C5<|gl 2 [0,6]<|el H fun tj hai H=>cl Q (cL 101) Q (qA.c hai)<|gl 1 [3]<|el H fun tm haj H=>cx 7 [1,0,2,3,4,5,6] (cL 100) (gB.c haj (p0_:=gi.2.1)) pC fun _ _=>?_
 refine go 2<|wg (aN.shut (p:=p1_) (m:=a1) (ga.1,ga.2) hac (pm 7 [4,5,0,1,2,3,6])) fun _ _=>?_
 refine wg (j7.shut (p:=p0_) (m:=(⟨tm.2,a0.pT⟩:j7)) (gi.1,gi.2.1,gi.2.2) hah (pm 6 [2,1,3,0,4,5])) fun _ _=>?_
 cases H.out; exact et () 4 [2,3,0,1] 2
theorem strings_Join.c {xs:List BA} {sep r:BA} (h:strings_Join.f xs sep=some r):Tr prog 102 [sl aw xs,vS sep] [lax] (γ:=Unit) (fun _=>True) (fun _=>vS r) (fun _=>[lax]):=Tr.DP fun R F w us hu hs=>by
  obtain ⟨⟨h1,h2⟩,H⟩:=aS.an (aS.of h)
  obtain rfl:=aS.out H
  cases hu with
  | cons ha hu=>cases hu with
    | cons hb hu=>
      cases hu
      simp only [ei] at hb
      subst hb
      rcases B6 ha hs with ⟨a,c,rfl,rfl⟩ | ⟨b,off,c,rfl,hl,hlt,hc⟩
      · exact ⟨_,Q,(Tryz.strings_Join_none a c sep w).mono fun e w' ⟨he,hw⟩=>⟨he,hw ▸ Go.RowKit.Below.refl _ _⟩⟩
      · exact ⟨_,Q,Tryz.strings_Join b off c xs sep w hc hlt h1 hl h2⟩
theorem iK.c (h:iK.f a0=some r):Tr prog 41 [agg (bB.enc a0)] [lax] (γ:=Unit) (fun _=>True) (fun g=>vS r) (fun g=>[lax]):=by
 refine tf func41 h fun R0 F H=>?_
 refine wr 2 1<|Dv.box Q T Q cA nofun fun ba=>go 1<|so<|WP.seq<|su [0]<|cf H ?_ ?_ <;> intro H
 ·
  refine WP.skip<|wr 10 0<|gl 7 [0,0,0]<|Dv.lit aw ([(⟨#[109]⟩:BA),a0.ab,a0.aj,a0.ae,(⟨#[48]⟩:BA)]:List BA) (css:=[[vS (⟨#[109]⟩:BA)],[vS a0.ab],[vS a0.aj],[vS a0.ae],[vS (⟨#[48]⟩:BA)]]) Q T de U9 c9 z9 Q dc dc Q ⟨(cells_one (ah Q)),⟨(cells_one (ah Q)),⟨(cells_one (ah Q)),⟨(cells_one (ah Q)),⟨(cells_one (ah Q)),T⟩⟩⟩⟩⟩ Q Q Q<|el H fun ta haa H=>pJ 2 [1,0] (cL 102) (strings_Join.c haa) ?_
  refine gq 1 ?_
  cases H.out; exact et () 2 [0,1] 1
 refine rg 1 0<|go 1<|wr 10 0<|gl 7 [0,0,0]<|Dv.lit aw ([(⟨#[109]⟩:BA),a0.ab,a0.aj,a0.ae,(⟨#[49]⟩:BA)]:List BA) (css:=[[vS (⟨#[109]⟩:BA)],[vS a0.ab],[vS a0.aj],[vS a0.ae],[vS (⟨#[49]⟩:BA)]]) Q T de U9 c9 z9 Q dc dc Q ⟨(cells_one (ah Q)),⟨(cells_one (ah Q)),⟨(cells_one (ah Q)),⟨(cells_one (ah Q)),⟨(cells_one (ah Q)),T⟩⟩⟩⟩⟩ Q Q Q<|el H fun tc hac H=>pJ 2 [1,0] (cL 102) (strings_Join.c hac) ?_
 refine gq 1 ?_
 cases H.out; exact et () 2 [0,1] 1
theorem mv.c (h:mv.f k a0=some r):Pt prog 103 [agg (ak.enc a0)] (vB r):=by
 refine pf func103 h fun R0 F H=>?_
 refine wr 2 1<|Dv.box Q T Q cA nofun fun ba=>go 1<|wr 3 0<|gl 1 [0]<|el H fun ta haa H=>cl Q (cL 92) Q (fY.c haa)<|go 1<|wr 7 0<|gp 2 ?_
 cases cc:ta
 ·
  have H:=H.cf cc
  refine gq 5 ?_
  cases H.out; exact ek 1
 have H:=H.ct cc
 refine He 5 [0] ?_
 cases H.out; exact ek 1
theorem cV.c:∀ (k:Nat) {a0:Int} {r:(List Int)} (h:cV.f k a0=some r),Tr prog 229 [vI a0] [] (γ:=OV) (fun _=>True) (fun g=>eq g.1) (fun g=>[own (bq .u8) g.1 r])
  | 0,_,_,h=>by cases h
  | k+1,a0,r,h=>by
    rw [cV.f] at h
    refine tb func229 ntmps229 h fun R0 F H=>?_
    refine so<|sq H id [] (fun pa=>[(0,vI pa)]) (fun _=>[]) (fun pa H=>?_) (fun H=>?_)
    rotate_left
    ·
     refine so<|cf H ?_ ?_ <;> intro H
     ·
      refine WP.skip ?_
      have H:=H.out
      exact jn a0 H
     refine rg 1 0<|gq 1 ?_
     have H:=H.out
     exact jn 0 H
    refine WP.seq<|so<|ce H ?_ ?_ <;> intro H
    ·
     refine wr 4 4<|go 1<|Dv.II Q T Q U3 U5<|Dv.lito (bq .u8) ([IntKind.u8.wrap (pa)]:List Int) (css:=[[eq (.int .u8 (IntKind.u8.wrap (pa)))]]) Q T jC U5 c5 z5 Q dc dc Q ⟨(cells_one (ah Q)),T⟩ Q Q Q nofun (fun va=>?_)
     refine gq 1 ?_
     cases H.out; exact et va 1 [0] 0
    refine WP.skip<|wr 6 16<|go 1<|oh Q Q Q (qT dc)<|go 1<|Dv.II Q T Q U3 U5<|Dv.lito (bq .u8) ([IntKind.u8.wrap (av (128+(pa.tmod 128)))]:List Int) (css:=[[eq (.int .u8 (IntKind.u8.wrap (av (128+(pa.tmod 128)))))]]) Q T jC U5 c5 z5 Q dc dc Q ⟨(cells_one (ah Q)),T⟩ Q Q Q nofun (fun vb=>?_)
    refine go 1<|wr 6 24<|go 2<|oh Q Q Q (oa dc)<|el H fun ta haa H=>cx 1 [0] (cL 229) (cV.c k haa) nofun fun ga _=>?_
    refine gr H fun gb H=>ap (bq .u8) 1 ta (np (aa 0 Q)) jC (.inr ⟨_,jC⟩) r9 gb nofun fun vd=>?_
    refine gq 1 ?_
    cases H.out; exact et vd 2 [0,1] 1
theorem jU.c (h:jU.f k a0=some r):Tr prog 230 [vS a0] [] (γ:=OV) (fun _=>True) (fun g=>eq g.1) (fun g=>[own (bq .u8) g.1 r]):=by
 refine tf func230 h fun R0 F H=>?_
 refine so<|wr 6 20<|go 1<|Dv.lens Q T Q U9<|el H fun ta haa H=>cx 0 [] (cL 229) (cV.c _ haa) nofun fun ga _=>?_
 refine go 1<|gr H fun gb H=>ap (bq .u8) 0 (nD a0) CN jC (.inl U9) r9 gb nofun fun va=>?_
 refine gq 1 ?_
 cases H.out; exact et va 1 [0] 0
theorem pZ.c (h:pZ.f a0=some r):Pt prog 231 [vB a0] (sl (bq .u8) r):=by
 refine pf func231 h fun R0 F H=>?_
 refine so<|WP.seq<|so<|ce H ?_ ?_ <;> intro H
 ·
  refine wr 2 0<|Dv.lit (bq .u8) ([1]:List Int) (css:=[[eq (.int .u8 1)]]) Q T jC U5 c5 z5 Q dc dc Q ⟨(cells_one (ah Q)),T⟩ Q Q Q<|gq 1 ?_
  cases H.out; exact ek 0
 refine WP.skip<|wr 2 0<|Dv.lit (bq .u8) ([0]:List Int) (css:=[[eq (.int .u8 0)]]) Q T jC U5 c5 z5 Q dc dc Q ⟨(cells_one (ah Q)),T⟩ Q Q Q<|gq 1 ?_
 cases H.out; exact ek 0
theorem lF.c (h:lF.f k a0=some r):Tr prog 165 [agg (ak.enc a0)] [] (γ:=OV) (fun _=>True) (fun g=>eq g.1) (fun g=>[own (bq .u8) g.1 r]):=by
 refine tf func165 h fun R0 F H=>?_
 refine wr 2 1<|Dv.box Q T Q cA nofun fun ba=>go 1<|wr 4 4<|gl 2 [0]<|el H fun ta haa H=>cx 1 [0] (cL 229) (cV.c _ haa) nofun fun ga _=>?_
 refine go 1<|wr 6 24<|gl 3 [1]<|el H fun tc hac H=>cx 2 [0,1] (cL 230) (jU.c hac) nofun fun gb _=>?_
 refine gr H fun gi H=>ap (bq .u8) 1 tc (np (aa 0 Q)) jC (.inr ⟨_,jC⟩) r9 gi nofun fun va=>?_
 refine go 1<|wr 6 24<|gl 3 [2]<|el H fun te had H=>cx 3 [0,1,2] (cL 230) (jU.c had) nofun fun gj _=>?_
 refine gr H fun gk H=>ap (bq .u8) 2 te (np (aa 0 Q)) jC (.inr ⟨_,jC⟩) r9 gk nofun fun vb=>?_
 refine go 1<|wr 6 24<|gl 3 [3]<|el H fun tg hae H=>cx 4 [0,1,2,3] (cL 230) (jU.c hae) nofun fun gm _=>?_
 refine gr H fun gn H=>ap (bq .u8) 3 tg (np (aa 0 Q)) jC (.inr ⟨_,jC⟩) r9 gn nofun fun vd=>?_
 refine go 1<|wr 6 24<|gl 3 [4]<|el H fun tj haf H=>cx 5 [0,1,2,3,4] (cL 230) (jU.c haf) nofun fun gu _=>?_
 refine gr H fun gv H=>ap (bq .u8) 4 tj (np (aa 0 Q)) jC (.inr ⟨_,jC⟩) r9 gv nofun fun ve=>?_
 refine go 1<|wr 6 16<|gl 3 [5]<|el H fun tm hag H=>cl Q (cL 231) Q (pZ.c hag)<|gr H fun gw H=>ap (bq .u8) 4 tm bD jC (.inr ⟨_,jC⟩) r9 gw nofun fun vh=>?_
 refine go 1<|wr 6 24<|gl 3 [5]<|el H fun tn hah H=>cx 6 [0,1,2,3,4,5] (cL 229) (cV.c _ hah) nofun fun gy _=>?_
 refine gr H fun gz H=>ap (bq .u8) 5 tn (np (aa 0 Q)) jC (.inr ⟨_,jC⟩) r9 gz nofun fun vi=>?_
 refine go 1<|wr 6 24<|gl 3 [6]<|el H fun tp hai H=>cx 7 [0,1,2,3,4,5,6] (cL 229) (cV.c _ hai) nofun fun gaa _=>?_
 refine gr H fun gab H=>ap (bq .u8) 6 tp (np (aa 0 Q)) jC (.inr ⟨_,jC⟩) r9 gab nofun fun vj=>?_
 refine go 1<|wr 6 24<|gl 3 [7]<|el H fun tq haj H=>cx 8 [0,1,2,3,4,5,6,7] (cL 229) (cV.c _ haj) nofun fun gac _=>?_
 refine gr H fun gad H=>ap (bq .u8) 7 tq (np (aa 0 Q)) jC (.inr ⟨_,jC⟩) r9 gad nofun fun vk=>?_
 refine go 1<|wr 6 24<|gl 3 [8]<|el H fun tu hak H=>cx 9 [0,1,2,3,4,5,6,7,8] (cL 229) (cV.c _ hak) nofun fun gae _=>?_
 refine gr H fun gaf H=>ap (bq .u8) 8 tu (np (aa 0 Q)) jC (.inr ⟨_,jC⟩) r9 gaf nofun fun vl=>?_
 refine gq 1 ?_
 cases H.out; exact et vl 10 [0,1,2,3,4,5,6,7,9,8] 9
theorem jz.c (h:jz.f k a0 a1=some r):Pt prog 104 [agg (ak.enc a0),agg (ak.enc a1)] (vI r):=by
 refine pf func104 h fun R0 F H=>?_
 refine wr 3 3<|Dv.box Q T Q cA nofun fun ba=>Dv.box Q T Q cA nofun fun bc=>go 1<|WP.seq<|su [1,0]<|ce H ?_ ?_ <;> intro H
 ·
  refine sp ?_
  cases H.out; exact ek 2
 refine WP.skip<|WP.seq<|su [1,0]<|ce H ?_ ?_ <;> intro H
 ·
  refine sp ?_
  cases H.out; exact ek 2
 refine WP.skip<|wr 4 2<|gl 1 [1]<|el H fun ta haa H=>cx 2 [0,1] (cL 165) (lF.c haa) nofun fun ga _=>?_
 refine Dv.gh (oi (E':=[(0,agg (ak.enc a0)),(1,agg (ak.enc a1)),(2,ey ba),(3,ey bc),(4,vI 0),(11,vB (decide (a0.aZ<a1.aZ))),(16,vB (decide (a1.aZ<a0.aZ))),(18,sl (bq .u8) ta)]) (l':=[aE bc 52 (ak.enc a1),aE ba 52 (ak.enc a0)]++F) 0 Q (ar Q ay (ar Q ay (ar Q ay (ar Q ay (ar Q ay (ar Q ay (ar Q ay (ar Q kV jK)))))))) (gK (.cons bP (.cons bP .nil)) fun _=>bP)) (fun _ _=>?_)
 refine Dv.Ll Q T Q jC U5 U9<|go 1<|wr 4 2<|gl 1 [0]<|el H fun tc hac H=>cx 2 [0,1] (cL 165) (lF.c hac) nofun fun gb _=>?_
 refine Dv.gh (oi (E':=[(0,agg (ak.enc a0)),(1,agg (ak.enc a1)),(2,ey ba),(3,ey bc),(4,vI 0),(5,vS (gG ta)),(11,vB (decide (a0.aZ<a1.aZ))),(16,vB (decide (a1.aZ<a0.aZ))),(21,sl (bq .u8) tc)]) (l':=[aE bc 52 (ak.enc a1),aE ba 52 (ak.enc a0)]++F) 0 Q (ar Q ay (ar Q ay (ar Q ay (ar Q ay (ar Q ay (ar Q ay (ar Q ay (ar Q ay (ar Q kV jK))))))))) (gK (.cons bP (.cons bP .nil)) fun _=>bP)) (fun _ _=>?_)
 refine Dv.Ll Q T Q jC U5 U9<|go 1<|WP.seq<|so<|ce H ?_ ?_ <;> intro H
 ·
  refine sp ?_
  cases H.out; exact ek 2
 refine WP.skip<|WP.seq<|so<|ce H ?_ ?_ <;> intro H
 ·
  refine sp ?_
  cases H.out; exact ek 2
 refine WP.skip<|sp ?_
 cases H.out; exact ek 2
theorem cT.c (h:cT.f k a0 a1=some r):Pt prog 42 [agg (kH.enc a0),agg (ak.enc a1)] (lu [agg (kH.enc r.1),vB r.2.1,vI r.2.2]):=by
 refine pf func42 h fun R0 F H=>?_
 refine wr 5 7<|Dv.box Q T Q cA nofun fun ba=>Dv.box Q T Q cA nofun fun bc=>al Q T Ky nofun fun bd=>go 2<|wr 3 0<|gl 1 [1]<|el H fun ta haa H=>cl Q (cL 103) Q (mv.c haa)<|go 1<|WP.seq<|wr 7 0<|kU 4 [1] ?_
 cases cc:(a1.aI != 2)
 rotate_left
 ·
  have H:=H.ct cc
  refine go 3<|WP.cond Q (fun _=>?_) nofun
  refine wr 4 2<|gl 1 [2]<|sy 0 ?_
  refine gq 2 ?_
  cases H.out; exact r3 i2 Q (.cons (au Q U37 Q c37 (aa 0 Q) Q) (.cons (aB Q) (.cons (aB Q) .nil)))
 have H:=H.cf cc
 refine go 3<|ce H ?_ ?_ <;> intro H
 ·
  refine wr 4 2<|gl 1 [2]<|sy 0 ?_
  refine gq 2 ?_
  cases H.out; exact r3 i2 Q (.cons (au Q U37 Q c37 (aa 0 Q) Q) (.cons (aB Q) (.cons (aB Q) .nil)))
 refine WP.skip<|wr 1 1<|al Q T Ky nofun fun be=>.fin<|so<|WP.yL H (fun qh:(Bool×Int×Bool×(List ak)×(List Bool))×OV×OV=>qh.1) (fun qh=>[(3,ey bc),(4,ey bd),(8,ey be),(9,vB qh.1.1)]) (fun qh=>[aE be 37 [eq qh.2.1.1,eq qh.2.2.1],aE bd 37 [dJ,dJ],aE bc 52 (ak.enc a1),aE ba 37 (kH.enc a0),own ak.K qh.2.1.1 qh.1.2.2.2.1,own cG qh.2.2.1 qh.1.2.2.2.2]++F) (fun qh H=>?_) (fun H=>?_)
 ·
  obtain ⟨pa,va,vb⟩:=qh
  refine WP.seq<|so<|cf H ?_ ?_ <;> intro H
  ·
   refine WP.skip<|wr 4 2<|gl 1 [0]<|sy 1 ?_
   refine go 2<|fz 4 [4,5,6] [1,1] ?_
   refine fz 4 [4,5,6] [1,1] ?_
   cases H.out; exact r4 i2 Q (.cons (au Q U37 Q c37 (aa 1 Q) Q) (.cons (aB Q) (.cons (aB Q) .nil)))
  refine wr 7 80<|gl 3 [0,2]<|Dv.lit ak.K ([a1]:List ak) (css:=[ak.enc a1]) Q T eX gJ iy wm Q dc dc Q ⟨(aR (ak.K.one _)),T⟩ Q Q Q<|gr H fun ga H=>ap ak.K 4 ([a1]:List ak) bD eX (.inr ⟨_,eX⟩) nO ga nofun fun vd=>?_
  refine go 1<|sx 0 Q T Q Q (cells_one bG) r8 Q Q Q nofun ?_
  refine .fin<|rg 6 40<|gl 2 [0]<|Dv.lit cG ([false]:List Bool) (css:=[[vB false]]) Q T sE U4 c4 z4 Q dc dc Q ⟨(cells_one (ah Q)),T⟩ Q Q Q<|gr H fun gb H=>ap cG 5 ([false]:List Bool) bD sE (.inr ⟨_,sE⟩) Ay gb nofun fun ve=>?_
  refine go 1<|sx 0 Q T Q Q (cells_one bG) B7 Q Q Q nofun ?_
  refine .fin<|wr 4 2<|gl 1 [0]<|sy 1 ?_
  refine go 2<|fz 4 [4,5,6] [1,1] ?_
  refine fz 4 [4,5,6] [1,1] ?_
  cases H.out; exact r4 i2 Q (.cons (au Q U37 Q c37 (aa 1 Q) Q) (.cons (aB Q) (.cons (aB Q) .nil)))
 refine so<|WP.block<|wg (dy ak.K none) fun _ _=>?_
 refine wg (dy cG none) fun _ _=>?_
 refine ws 6 [2,3,4,5,1,0] 0 ?_
 refine lq (fun j_ (pc:Bool×Int×(List ak)×(List Bool)×OV×OV)=>cT.l0 k a0 a1 j_ pc.1 pc.2.1 pc.2.2.1 pc.2.2.2.1) (false,0,([]:List ak),([]:List Bool),jR,C9) H [2,3,4,8] (fun pc=>[(9,vB pc.1),(10,vI pc.2.1)]) (fun pc=>[(0,aE be 37 [eq pc.2.2.2.2.1.1,eq pc.2.2.2.2.2.1]),(4,own ak.K pc.2.2.2.2.1.1 pc.2.2.1),(5,own cG pc.2.2.2.2.2.1 pc.2.2.2.1)]) ?_
 rintro j_ ⟨xc,xd,xe,xf,vh,vi⟩ H
 rcases j_ with _ | ja
 ·
  exact (aS.no H).elim
 try dsimp only at H
 rw [cT.l0] at H
 refine WP.seq<|wr 5 0<|gl 3 [3]<|Dv.fk Q T Q eX<|go 1<|cf H ?_ ?_ <;> intro H
 ·
  refine WP.exit ?_
  have H:=H.out
  exact jn ((xc,xd,decide (xd<(a0.fL.length:Int)),xe,xf),vh,vi) H
 refine WP.skip<|WP.seq<|WP.block<|wr 7 96<|gl 3 [3]<|gr H fun gi H=>Dv.fR Q T Q Q eX gJ iy gi.1 gi.2<|lr Q T Q uR Q<|al Q T wa nofun fun bg=>sy 0 ?_
 refine .fin<|WP.seq<|wr 12 0<|kU 6 [0,3] ?_
 cases cg:decide (((ak.K.at a0.fL xd).ab)=a1.ab)
 ·
  have H:=H.cf cg
  refine go 6<|WP.cond Q nofun (fun _=>?_)
  refine WP.skip<|WP.jh H (fun qi:(Bool×Bool×(List ak)×(List Bool))×OV×OV=>qi.1) (fun qi=>[(2,ey ba),(3,ey bc),(4,ey bd),(8,ey be),(9,vB qi.1.1),(10,vI xd),(11,ey bg)]) (fun qi=>[aE bg 52 (ak.enc (ak.K.at a0.fL xd)),aE be 37 [eq qi.2.1.1,eq qi.2.2.1],aE bd 37 [dJ,dJ],aE bc 52 (ak.enc a1),aE ba 37 (kH.enc a0),own ak.K qi.2.1.1 qi.1.2.2.1,own cG qi.2.2.1 qi.1.2.2.2]++F) (fun qi H=>?_) (fun H=>?_)
  ·
   obtain ⟨pe,vj,vk⟩:=qi
   refine wr 7 80<|gl 3 [1,0]<|Dv.lit ak.K ([ak.K.at a0.fL xd]:List ak) (css:=[ak.enc (ak.K.at a0.fL xd)]) Q T eX gJ iy wm Q dc dc Q ⟨(aR (ak.K.one _)),T⟩ Q Q Q<|gr H fun gj H=>ap ak.K 5 ([ak.K.at a0.fL xd]:List ak) bD eX (.inr ⟨_,eX⟩) nO gj nofun fun vl=>?_
   refine go 1<|sx 1 Q T Q Q (cells_one bG) r8 Q Q Q nofun ?_
   refine .fin<|dg mX 11 1280<|gl 5 [1,4]<|gr H fun gk H=>Dv.fR Q T Q Q sE U4 c4 gk.1 gk.2<|jw Q T Q sc4 Q<|Dv.lit cG ([cG.at a0.db xd]:List Bool) (css:=[[vB (cG.at a0.db xd)]]) Q T sE U4 c4 z4 Q dc dc Q ⟨(cells_one (ah Q)),T⟩ Q Q Q<|gr H fun gm H=>ap cG 6 ([cG.at a0.db xd]:List Bool) bD sE (.inr ⟨_,sE⟩) Ay gm pB fun vm=>?_
   refine go 1<|sx 1 Q T Q Q (cells_one bG) B7 Q Q Q pB ?_
   refine .fin<|rg 3 0<|go 3<|ns 7 [0,1,2,3,4,5,6] 1 ?_
   exact bk ja (pe.1,av (xd+1),pe.2.2.1++([ak.K.at a0.fL xd]:List ak),pe.2.2.2++([cG.at a0.db xd]:List Bool),vl,vm) H
  refine wr 23 0<|gp 3 ?_
  cases ci:!xc
  ·
   have H:=H.cf ci
   refine go 20<|WP.cond Q nofun (fun _=>?_)
   refine WP.skip ?_
   have H:=H.out
   exact jn ((xc,false,xe,xf),vh,vi) H
  have H:=H.ct ci
  refine kU 6 [3,0] ?_
  cases cj:dK a1.ab ((ak.K.at a0.fL xd).ab)
  rotate_left
  ·
   have H:=H.ct cj
   refine go 14<|WP.cond Q (fun _=>?_) nofun
   refine wr 7 80<|gl 3 [1,3]<|Dv.lit ak.K ([a1]:List ak) (css:=[ak.enc a1]) Q T eX gJ iy wm Q dc dc Q ⟨(aR (ak.K.one _)),T⟩ Q Q Q<|gr H fun gn H=>ap ak.K 5 ([a1]:List ak) bD eX (.inr ⟨_,eX⟩) nO gn nofun fun vn=>?_
   refine go 1<|sx 1 Q T Q Q (cells_one bG) r8 Q Q Q nofun ?_
   refine .fin<|wr 6 40<|gl 2 [1]<|Dv.lit cG ([false]:List Bool) (css:=[[vB false]]) Q T sE U4 c4 z4 Q dc dc Q ⟨(cells_one (ah Q)),T⟩ Q Q Q<|gr H fun gu H=>ap cG 6 ([false]:List Bool) bD sE (.inr ⟨_,sE⟩) Ay gu nofun fun vo=>?_
   refine go 1<|sx 1 Q T Q Q (cells_one bG) B7 Q Q Q nofun ?_
   refine .fin<|rg 1 0<|gq 1 ?_
   have H:=H.out
   exact jn ((true,true,xe++([a1]:List ak),xf++([false]:List Bool)),vn,vo) H
  have H:=H.cf cj
  refine kU 6 [3,0] ?_
  cases ck:decide (a1.ab=((ak.K.at a0.fL xd).ab))
  ·
   have H:=H.cf ck
   refine go 8<|WP.cond Q nofun (fun _=>?_)
   refine WP.skip ?_
   have H:=H.out
   exact jn ((xc,false,xe,xf),vh,vi) H
  have H:=H.ct ck
  refine gl 8 [3,0]<|cf H ?_ ?_ <;> intro H
  ·
   refine WP.skip ?_
   have H:=H.out
   exact jn ((xc,dK a1.aj ((ak.K.at a0.fL xd).aj),xe,xf),vh,vi) H
  refine wr 7 80<|gl 3 [1,3]<|Dv.lit ak.K ([a1]:List ak) (css:=[ak.enc a1]) Q T eX gJ iy wm Q dc dc Q ⟨(aR (ak.K.one _)),T⟩ Q Q Q<|gr H fun gv H=>ap ak.K 5 ([a1]:List ak) bD eX (.inr ⟨_,eX⟩) nO gv nofun fun vq=>?_
  refine go 1<|sx 1 Q T Q Q (cells_one bG) r8 Q Q Q nofun ?_
  refine .fin<|wr 6 40<|gl 2 [1]<|Dv.lit cG ([false]:List Bool) (css:=[[vB false]]) Q T sE U4 c4 z4 Q dc dc Q ⟨(cells_one (ah Q)),T⟩ Q Q Q<|gr H fun gw H=>ap cG 6 ([false]:List Bool) bD sE (.inr ⟨_,sE⟩) Ay gw nofun fun vr=>?_
  refine go 1<|sx 1 Q T Q Q (cells_one bG) B7 Q Q Q nofun ?_
  refine .fin<|rg 1 0<|gq 1 ?_
  have H:=H.out
  exact jn ((true,dK a1.aj ((ak.K.at a0.fL xd).aj),xe++([a1]:List ak),xf++([false]:List Bool)),vq,vr) H
 have H:=H.ct cg
 refine gl 6 [0,3]<|ce H ?_ ?_ <;> intro H
 ·
  refine WP.seq<|wr 4 0<|gl 2 [3,0]<|el H fun tc hac H=>cl Q (cL 104) Q (jz.c hac)<|go 1<|cf H ?_ ?_ <;> intro H
  ·
   refine WP.skip<|WP.exit<|rg 3 0<|go 3<|ns 7 [0,1,2,3,4,5,6] 1 ?_
   exact bk ja (xc,av (xd+1),xe,xf,vh,vi) H
  refine wr 4 2<|gl 1 [4]<|sy 2 ?_
  refine gq 2 ?_
  have H:=H.fg
  cases H.out; exact rt i2 Q () 7 [0,1,2,3,4,5,6] 7 (.cons (au Q U37 Q c37 (aa 2 Q) Q) (.cons (aB Q) (.cons (aB Q) .nil)))
 refine WP.skip<|WP.jh H (fun qj:(Bool×Bool×(List ak)×(List Bool))×OV×OV=>qj.1) (fun qj=>[(2,ey ba),(3,ey bc),(4,ey bd),(8,ey be),(9,vB qj.1.1),(10,vI xd),(11,ey bg)]) (fun qj=>[aE bg 52 (ak.enc (ak.K.at a0.fL xd)),aE be 37 [eq qj.2.1.1,eq qj.2.2.1],aE bd 37 [dJ,dJ],aE bc 52 (ak.enc a1),aE ba 37 (kH.enc a0),own ak.K qj.2.1.1 qj.1.2.2.1,own cG qj.2.2.1 qj.1.2.2.2]++F) (fun qj H=>?_) (fun H=>?_)
 ·
  obtain ⟨pg,vt,vu⟩:=qj
  refine wr 7 80<|gl 3 [1,0]<|Dv.lit ak.K ([ak.K.at a0.fL xd]:List ak) (css:=[ak.enc (ak.K.at a0.fL xd)]) Q T eX gJ iy wm Q dc dc Q ⟨(aR (ak.K.one _)),T⟩ Q Q Q<|gr H fun gy H=>ap ak.K 5 ([ak.K.at a0.fL xd]:List ak) bD eX (.inr ⟨_,eX⟩) nO gy nofun fun vv=>?_
  refine go 1<|sx 1 Q T Q Q (cells_one bG) r8 Q Q Q nofun ?_
  refine .fin<|dg mX 11 1280<|gl 5 [1,4]<|gr H fun gz H=>Dv.fR Q T Q Q sE U4 c4 gz.1 gz.2<|jw Q T Q sc4 Q<|Dv.lit cG ([cG.at a0.db xd]:List Bool) (css:=[[vB (cG.at a0.db xd)]]) Q T sE U4 c4 z4 Q dc dc Q ⟨(cells_one (ah Q)),T⟩ Q Q Q<|gr H fun gaa H=>ap cG 6 ([cG.at a0.db xd]:List Bool) bD sE (.inr ⟨_,sE⟩) Ay gaa pB fun vx=>?_
  refine go 1<|sx 1 Q T Q Q (cells_one bG) B7 Q Q Q pB ?_
  refine .fin<|rg 3 0<|go 3<|ns 7 [0,1,2,3,4,5,6] 1 ?_
  exact bk ja (pg.1,av (xd+1),pg.2.2.1++([ak.K.at a0.fL xd]:List ak),pg.2.2.2++([cG.at a0.db xd]:List Bool),vv,vx) H
 refine wr 23 0<|gp 3 ?_
 cases cn:!xc
 ·
  have H:=H.cf cn
  refine go 20<|WP.cond Q nofun (fun _=>?_)
  refine WP.skip ?_
  have H:=H.out
  exact jn ((xc,false,xe,xf),vh,vi) H
 have H:=H.ct cn
 refine kU 6 [3,0] ?_
 cases co:dK a1.ab ((ak.K.at a0.fL xd).ab)
 rotate_left
 ·
  have H:=H.ct co
  refine go 14<|WP.cond Q (fun _=>?_) nofun
  refine wr 7 80<|gl 3 [1,3]<|Dv.lit ak.K ([a1]:List ak) (css:=[ak.enc a1]) Q T eX gJ iy wm Q dc dc Q ⟨(aR (ak.K.one _)),T⟩ Q Q Q<|gr H fun gab H=>ap ak.K 5 ([a1]:List ak) bD eX (.inr ⟨_,eX⟩) nO gab nofun fun vy=>?_
  refine go 1<|sx 1 Q T Q Q (cells_one bG) r8 Q Q Q nofun ?_
  refine .fin<|wr 6 40<|gl 2 [1]<|Dv.lit cG ([false]:List Bool) (css:=[[vB false]]) Q T sE U4 c4 z4 Q dc dc Q ⟨(cells_one (ah Q)),T⟩ Q Q Q<|gr H fun gac H=>ap cG 6 ([false]:List Bool) bD sE (.inr ⟨_,sE⟩) Ay gac nofun fun vz=>?_
  refine go 1<|sx 1 Q T Q Q (cells_one bG) B7 Q Q Q nofun ?_
  refine .fin<|rg 1 0<|gq 1 ?_
  have H:=H.out
  exact jn ((true,true,xe++([a1]:List ak),xf++([false]:List Bool)),vy,vz) H
 have H:=H.cf co
 refine kU 6 [3,0] ?_
 cases cp:decide (a1.ab=((ak.K.at a0.fL xd).ab))
 ·
  have H:=H.cf cp
  refine go 8<|WP.cond Q nofun (fun _=>?_)
  refine WP.skip ?_
  have H:=H.out
  exact jn ((xc,false,xe,xf),vh,vi) H
 have H:=H.ct cp
 refine gl 8 [3,0]<|cf H ?_ ?_ <;> intro H
 ·
  refine WP.skip ?_
  have H:=H.out
  exact jn ((xc,dK a1.aj ((ak.K.at a0.fL xd).aj),xe,xf),vh,vi) H
 refine wr 7 80<|gl 3 [1,3]<|Dv.lit ak.K ([a1]:List ak) (css:=[ak.enc a1]) Q T eX gJ iy wm Q dc dc Q ⟨(aR (ak.K.one _)),T⟩ Q Q Q<|gr H fun gad H=>ap ak.K 5 ([a1]:List ak) bD eX (.inr ⟨_,eX⟩) nO gad nofun fun vaa=>?_
 refine go 1<|sx 1 Q T Q Q (cells_one bG) r8 Q Q Q nofun ?_
 refine .fin<|wr 6 40<|gl 2 [1]<|Dv.lit cG ([false]:List Bool) (css:=[[vB false]]) Q T sE U4 c4 z4 Q dc dc Q ⟨(cells_one (ah Q)),T⟩ Q Q Q<|gr H fun gae H=>ap cG 6 ([false]:List Bool) bD sE (.inr ⟨_,sE⟩) Ay gae nofun fun vab=>?_
 refine go 1<|sx 1 Q T Q Q (cells_one bG) B7 Q Q Q nofun ?_
 refine .fin<|rg 1 0<|gq 1 ?_
 have H:=H.out
 exact jn ((true,dK a1.aj ((ak.K.at a0.fL xd).aj),xe++([a1]:List ak),xf++([false]:List Bool)),vaa,vab) H
theorem mw.c (h:mw.f k a0=some r):Pt prog 105 [agg (ak.enc a0)] (vB r):=by
 refine pf func105 h fun R0 F H=>?_
 refine wr 2 1<|Dv.box Q T Q cA nofun fun ba=>go 1<|wr 8 0<|gl 1 [0]<|el H fun ta haa H=>cl Q (cL 96) Q (eP.c haa)<|gp 1 ?_
 cases cc:ta
 ·
  have H:=H.cf cc
  refine gq 5 ?_
  cases H.out; exact ek 1
 have H:=H.ct cc
 refine He 5 [0] ?_
 cases H.out; exact ek 1
theorem slices_BinarySearchFunc_Edu_Edu.c (h:slices_BinarySearchFunc_Edu_Edu.f k a0 a1 a2=some r):Pt prog 166 [sl ak.K a0,agg (ak.enc a1),pz a2] (lu [vI r.1,vB r.2]):=by
 refine pf func166 h fun R0 F H=>?_
 refine wr 3 1<|Dv.box Q T Q cA nofun fun ba=>go 2<|wr 3 0<|go 1<|Dv.fk Q T Q eX<|go 1<|so<|sq H id [0,2,4,8] (fun pa=>[(9,vI pa.1)]) (fun _=>[]) (fun pa H=>?_) (fun H=>?_)
 ·
  refine wd mX 16 0<|gp 5 ?_
  cases cc:decide (pa.1<(a0.length:Int))
  ·
   have H:=H.cf cc
   refine gq 11 ?_
   cases H.out; exact ek 1
  have H:=H.ct cc
  refine go 3<|gr H fun ga H=>Dv.fR Q (gg Q) Q Q eX gJ iy ga.1 ga.2<|lr Q (gg Q) Q uR Q<|gl 1 [0]<|el H fun ta haa H=>Dv.tH (ret:=vI ta) Q (gg Q) Q Q ⟨_,_,_,haa,Q,Q⟩<|gq 4 ?_
  cases H.out; exact ek 1
 refine WP.block<|ws 1 [0] 0 ?_
 refine lq (fun j_ (pc:Int×Int)=>slices_BinarySearchFunc_Edu_Edu.l0 k a0 a1 a2 j_ pc.1 pc.2) (0,(a0.length:Int)) H [0,2,4,8] (fun pc=>[(9,vI pc.1),(10,vI pc.2)]) (fun _=>[]) ?_
 rintro j_ ⟨xc,xd⟩ H
 rcases j_ with _ | ja
 ·
  exact (aS.no H).elim
 try dsimp only at H
 rw [slices_BinarySearchFunc_Edu_Edu.l0] at H
 refine WP.seq<|so<|cf H ?_ ?_ <;> intro H
 ·
  refine WP.exit ?_
  have H:=H.out
  exact jn (xc,xd,decide (xc<xd)) H
 refine WP.skip<|WP.block<|wr 7 0<|go 3<|Dv.II Q T Q U3 HA<|oh Q Q Q (Cq dc)<|Dv.II Q T Q HA U3<|go 1<|wd mX 8 0<|go 3<|gr H fun gb H=>Dv.fR Q T Q Q eX gJ iy gb.1 gb.2<|lr Q T Q uR Q<|gl 1 [0]<|el H fun tc hac H=>Dv.tH (ret:=vI tc) Q T Q Q ⟨_,_,_,hac,Q,Q⟩<|go 1<|cf H ?_ ?_ <;> intro H
 ·
  exact rg 2 0<|go 2<|bk ja (xc,av ((IntKind.u64.wrap (av (xc+xd))).fdiv 2)) H
 exact rg 3 0<|go 3<|bk ja (av ((av ((IntKind.u64.wrap (av (xc+xd))).fdiv 2))+1),xd) H
theorem ea.c (h:ea.f k a0 a1=some r):Pt prog 167 [agg (ak.enc a0),agg (ak.enc a1)] (vI r):=by
 refine pf func167 h fun R0 F H=>?_
 refine wr 3 3<|Dv.box Q T Q cA nofun fun ba=>Dv.box Q T Q cA nofun fun bc=>go 1<|wd mX 13 0<|gl 4 [1,0]<|el H fun ta haa H=>cl Q (cL 65) Q (aD.c haa)<|gl 4 [1,0]<|el H fun tc hac H=>cl Q (cL 65) Q (aD.c hac)<|Dv.lit (bq .i64) ([ta,tc]:List Int) (css:=[[vI ta],[vI tc]]) Q T oU U3 c3 z3 Q dc dc Q ⟨(cells_one (ah Q)),⟨(cells_one (ah Q)),T⟩⟩ Q Q Q<|el H fun te had H=>cl Q (cL 128) Q (bE.c had)<|gq 1 ?_
 cases H.out; exact ek 2
theorem dW.c {v0_0 v0_1:OV} {b0_:Nat} (h:dW.f k a0 a1=some r):Tr prog 106 [ey b0_,agg (ak.enc a1)] [aE b0_ 190 [eq v0_0.1,eq v0_1.1],own ak.K v0_0.1 a0.fl] (γ:=Unit) (fun _=>True) (fun g=>lu [vI r.1,vB r.2]) (fun g=>[aE b0_ 190 [eq v0_0.1,eq v0_1.1],own ak.K v0_0.1 a0.fl]):=by
 refine tf func106 h fun R0 F H=>?_
 refine wr 3 1<|Dv.box Q T Q cA nofun fun ba=>go 2<|wd mX 10 0<|gl 5 [1,0]<|el H fun ta haa H=>pJ (B:=[own ak.K v0_0.1 a0.fl]) 3 [2,0,1] (cL 166) (Pt.wT _ (Pt.kn (slices_BinarySearchFunc_Edu_Edu.c haa) (.cons bV (.cons bV (.cons (xC (cL 167) (by rintro _ _ ⟨a0_,a1_,r_,h_,rfl,rfl⟩; exact ea.c h_)) .nil)))) (.cons (pq (aa 0 Q)) (.cons q7 (.cons q7 .nil))) (zR (nF lM (nF lM sK)))) ?_
 refine eF Q T Q Q<|eF Q T Q Q<|gq 2 ?_
 cases H.out; exact et () 3 [0,1,2] 1
theorem pV.c (h:pV.f a0=some r):Pt prog 168 [agg (ak.enc a0)] (agg (u0.enc r)):=by
 refine pf func168 h fun R0 F H=>?_
 refine wr 2 3<|Dv.box Q T Q cA nofun fun ba=>al Q T zc294 nofun fun bc=>.fin<|wr 12 2048<|gl 10 [1,1,1,1,1]<|Dv.kL (qs:=[vI a0.aI,vS a0.ab,vS a0.aj,vS a0.ae,vB a0.aq]) (css:=[[vI a0.aI],[vS a0.ab],[vS a0.aj],[vS a0.ae],[vB a0.aq]]) Q T Ls pl294 z294 Q ⟨(cells_one (ah Q)),⟨(cells_one (ah Q)),⟨(cells_one (ah Q)),⟨(cells_one (ah Q)),⟨(cells_one (ah Q)),T⟩⟩⟩⟩⟩ Q Q<|sy 0 ?_
 refine .fin ?_
 cases H.out; exact r2 i2 Q (.cons (au Q Ls Q c294 (aa 0 Q) Q) .nil)
theorem ll.c (h:ll.f a0 a1=some r):Pt prog 232 [sl (bq .u8) a0,sl (bq .u8) a1] (vI r):=by
 refine pf func232 h fun R0 F H=>?_
 refine so<|wr 4 0<|go 2<|Dv.Km Q T Q (K0 func260 kr Q xf260 xg260)<|gq 1 ?_
 cases H.out; exact ek 0
theorem bZ.c {p0_:OV} (h:bZ.f k a0 a1=some r):Tr prog 261 [eq p0_.1,vI a1] [own (bq .u8) p0_.1 a0] (γ:=OV) (fun _=>True) (fun g=>eq g.1) (fun g=>[own (bq .u8) g.1 r]):=by
 refine tf func261 h fun R0 F H=>?_
 refine so<|wr 3 0<|go 1<|Dv.JG Q T Q Q<|go 1<|wr 7 32<|go 2<|Dv.ko Q T Q (aa 0 Q) jC<|go 1<|Dv.ko Q T Q (aa 0 Q) jC<|gr H fun ga H=>Dv.slo (jj:=0) Q T Q Q jC U5 c5 dM (eY Q ga.1) (.inr ⟨⟨_,_,Q,ga.1,Q⟩,Q,Q⟩) ga.2.1 ga.2.2 nofun (fun va=>?_)
 refine go 1<|sq H (fun qh:(Int×Bool×(List Int))×OV=>qh.1) [] (fun qh=>[(0,eq qh.2.1),(1,vI qh.1.1)]) (fun qh=>[(0,own (bq .u8) qh.2.1 qh.1.2.2)]) (fun qh H=>?_) (fun H=>?_)
 ·
  obtain ⟨pa,vb⟩:=qh
  refine wr 6 16<|go 2<|Dv.II Q T Q U3 U5<|Dv.lit (bq .u8) ([IntKind.u8.wrap (pa.1)]:List Int) (css:=[[eq (.int .u8 (IntKind.u8.wrap (pa.1)))]]) Q T jC U5 c5 z5 Q dc dc Q ⟨(cells_one (ah Q)),T⟩ Q Q Q<|gr H fun gb H=>ap (bq .u8) 0 ([IntKind.u8.wrap (pa.1)]:List Int) bD jC (.inr ⟨_,jC⟩) r9 gb nofun fun vd=>?_
  refine gq 1 ?_
  cases H.out; exact et vd 1 [0] 0
 refine WP.block<|ws 1 [0] 0 ?_
 refine lq (fun j_ (pc:Int×(List Int)×OV)=>bZ.l0 k j_ pc.1 pc.2.1) (max a1 0,(a0.take ((a0.length:Int).toNat)).drop 0,va) H [] (fun pc=>[(0,eq pc.2.2.1),(1,vI pc.1)]) (fun pc=>[(0,own (bq .u8) pc.2.2.1 pc.2.1)]) ?_
 rintro j_ ⟨xc,xd,ve⟩ H
 rcases j_ with _ | ja
 ·
  exact (aS.no H).elim
 try dsimp only at H
 rw [bZ.l0] at H
 refine WP.seq<|so<|cf H ?_ ?_ <;> intro H
 ·
  refine WP.exit ?_
  have H:=H.out
  exact jn ((xc,decide (128≤xc),xd),ve) H
 refine WP.skip<|WP.seq<|WP.block<|rg 8 64<|go 2<|oh Q Q Q (qT dc)<|go 1<|Dv.II Q T Q U3 U5<|Dv.lit (bq .u8) ([IntKind.u8.wrap (av ((xc.tmod 128)+128))]:List Int) (css:=[[eq (.int .u8 (IntKind.u8.wrap (av ((xc.tmod 128)+128))))]]) Q T jC U5 c5 z5 Q dc dc Q ⟨(cells_one (ah Q)),T⟩ Q Q Q<|gr H fun gi H=>ap (bq .u8) 0 ([IntKind.u8.wrap (av ((xc.tmod 128)+128))]:List Int) bD jC (.inr ⟨_,jC⟩) r9 gi nofun fun vh=>?_
 exact go 1<|rg 3 0<|go 1<|oh Q Q Q (oa dc)<|go 1<|bk ja (av (xc.tdiv 128),xd++([IntKind.u8.wrap (av ((xc.tmod 128)+128))]:List Int),vh) H
theorem oA.c {p0_:OV} (h:oA.f k a0 a1=some r):Tr prog 262 [eq p0_.1,vS a1] [own (bq .u8) p0_.1 a0] (γ:=OV) (fun _=>True) (fun g=>eq g.1) (fun g=>[own (bq .u8) g.1 r]):=by
 refine tf func262 h fun R0 F H=>?_
 refine so<|wr 7 40<|go 2<|Dv.lens Q T Q U9<|el H fun ta haa H=>cx 1 [0] (cL 261) (bZ.c haa (p0_:=p0_)) nofun fun ga _=>?_
 refine go 1<|gr H fun gb H=>ap (bq .u8) 0 (nD a1) CN jC (.inl U9) r9 gb nofun fun va=>?_
 refine gq 1 ?_
 cases H.out; exact et va 1 [0] 0
theorem oT.c {p0_:OV} (h:oT.f k a0 a1=some r):Tr prog 263 [eq p0_.1,vB a1] [own (bq .u8) p0_.1 a0] (γ:=OV) (fun _=>True) (fun g=>eq g.1) (fun g=>[own (bq .u8) g.1 r]):=by
 refine tf func263 h fun R0 F H=>?_
 refine so<|WP.seq<|so<|ce H ?_ ?_ <;> intro H
 ·
  refine wr 3 2<|go 1<|el H fun ta haa H=>cx 1 [0] (cL 261) (bZ.c haa (p0_:=p0_)) nofun fun ga _=>?_
  refine gq 1 ?_
  cases H.out; exact et ga 1 [0] 0
 refine WP.skip<|wr 3 2<|go 1<|el H fun tc hac H=>cx 1 [0] (cL 261) (bZ.c hac (p0_:=p0_)) nofun fun gb _=>?_
 refine gq 1 ?_
 cases H.out; exact et gb 1 [0] 0
theorem cR.c (h:cR.f k a0=some r):Tr prog 233 [agg (ak.enc a0)] [] (γ:=OV) (fun _=>True) (fun g=>eq g.1) (fun g=>[own (bq .u8) g.1 r]):=by
 refine tf func233 h fun R0 F H=>?_
 refine wr 2 1<|Dv.box Q T Q cA nofun fun ba=>go 1<|wr 4 4<|gl 2 [0]<|vg (dy (bq .u8) none) fun _ _=>?_
 refine el H fun ta haa H=>cx 2 [0,1] (cL 261) (bZ.c haa (p0_:=jR)) nofun fun ga _=>?_
 refine go 1<|WP.jh H (fun qh:(Int×Bool×(List Int))×OV=>qh.1) (fun qh=>[(1,ey ba),(3,eq qh.2.1)]) (fun qh=>[aE ba 52 (ak.enc a0),own (bq .u8) qh.2.1 qh.1.2.2]++F) (fun qh H=>?_) (fun H=>?_)
 rotate_left
 ·
  refine wr 11 0<|gl 8 [1,1,1,1]<|Dv.lit aw ([a0.ab,a0.aj,a0.bH,a0.ae]:List BA) (css:=[[vS a0.ab],[vS a0.aj],[vS a0.bH],[vS a0.ae]]) Q T de U9 c9 z9 Q dc dc Q ⟨(cells_one (ah Q)),⟨(cells_one (ah Q)),⟨(cells_one (ah Q)),⟨(cells_one (ah Q)),T⟩⟩⟩⟩ Q Q Q<|Dv.fk Q T Q de<|go 1<|WP.block<|ws 2 [1,0] 0 ?_
  refine lq (fun j_ (pa:Int×(List Int)×OV)=>cR.l1 k a0 j_ pa.1 pa.2.1) (0,ta,ga) H [1,19,20] (fun pa=>[(3,eq pa.2.2.1),(21,vI pa.1)]) (fun pa=>[(1,own (bq .u8) pa.2.2.1 pa.2.1)]) ?_
  rintro j_ ⟨xc,xd,va⟩ H
  rcases j_ with _ | ja
  ·
   exact (aS.no H).elim
  try dsimp only at H
  rw [cR.l1] at H
  refine so<|WP.seq<|cf H ?_ ?_ <;> intro H
  ·
   refine WP.exit ?_
   have H:=H.out
   exact jn ((xc,decide (xc<(([a0.ab,a0.aj,a0.bH,a0.ae]:List BA).length:Int)),xd),va) H
  refine WP.skip<|WP.seq<|WP.block<|wr 3 0<|gr H fun gb H=>Dv.fR Q T Q Q de U9 c9 gb.1 gb.2<|jw Q T Q nu Q<|go 1<|rg 4 4<|go 2<|el H fun tc hac H=>cx 2 [1,0] (cL 262) (oA.c hac (p0_:=va)) nofun fun gi _=>?_
  refine go 1<|rg 2 0<|go 2<|ns 2 [1,0] 0 ?_
  exact bk ja (av (xc+1),tc,gi) H
 obtain ⟨pc,vb⟩:=qh
 refine wr 5 8<|gl 3 [0]<|el H fun te had H=>cx 2 [1,0] (cL 263) (oT.c had (p0_:=vb)) nofun fun gj _=>?_
 refine go 1<|WP.jh H (fun qi:(Int×Bool×(List Int))×OV=>qi.1) (fun qi=>[(3,eq qi.2.1)]) (fun qi=>[aE ba 52 (ak.enc a0),own (bq .u8) qi.2.1 qi.1.2.2]++F) (fun qi H=>?_) (fun H=>?_)
 ·
  obtain ⟨pe,vd⟩:=qi
  refine sp ?_
  cases H.out; exact et vd 2 [0,1] 1
 refine wr 11 0<|gl 8 [1,1,1,1]<|Dv.lit (bq .i64) ([a0.bW,a0.aQ,a0.aU,a0.aZ]:List Int) (css:=[[vI a0.bW],[vI a0.aQ],[vI a0.aU],[vI a0.aZ]]) Q T oU U3 c3 z3 Q dc dc Q ⟨(cells_one (ah Q)),⟨(cells_one (ah Q)),⟨(cells_one (ah Q)),⟨(cells_one (ah Q)),T⟩⟩⟩⟩ Q Q Q<|Dv.fk Q T Q oU<|go 1<|WP.block<|ws 2 [1,0] 0 ?_
 refine lq (fun j_ (pg:Int×(List Int)×OV)=>cR.l0 k a0 j_ pg.1 pg.2.1) (0,te,gj) H [41,42] (fun pg=>[(3,eq pg.2.2.1),(43,vI pg.1)]) (fun pg=>[(1,own (bq .u8) pg.2.2.1 pg.2.1)]) ?_
 rintro j_ ⟨xe,xf,ve⟩ H
 rcases j_ with _ | jc
 ·
  exact (aS.no H).elim
 try dsimp only at H
 rw [cR.l0] at H
 refine so<|WP.seq<|cf H ?_ ?_ <;> intro H
 ·
  refine WP.exit ?_
  have H:=H.out
  exact jn ((xe,decide (xe<(([a0.bW,a0.aQ,a0.aU,a0.aZ]:List Int).length:Int)),xf),ve) H
 refine WP.skip<|WP.seq<|WP.block<|wr 3 0<|gr H fun gk H=>Dv.fR Q T Q Q oU U3 c3 gk.1 gk.2<|jw Q T Q wu Q<|go 1<|rg 4 4<|go 2<|el H fun tg hae H=>cx 2 [1,0] (cL 261) (bZ.c hae (p0_:=ve)) nofun fun gm _=>?_
 refine go 1<|rg 2 0<|go 2<|ns 2 [1,0] 0 ?_
 exact bk jc (av (xe+1),tg,gm) H
theorem lG.c (h:lG.f k a0 a1=some r):Pt prog 169 [agg (ak.enc a0),agg (ak.enc a1)] (vI r):=by
 refine pf func169 h fun R0 F H=>?_
 refine wr 3 3<|Dv.box Q T Q cA nofun fun ba=>Dv.box Q T Q cA nofun fun bc=>go 1<|WP.seq<|dgo mX [0,1,2,3,4,5,7,6,8,9,10,11,12] [6,8]<|gl 4 [1,0]<|el H fun ta haa H=>cl Q (cL 129) Q (b7.c haa)<|gl 2 [1,0]<|el H fun tc hac H=>Dv.uK (pre:=[]) (F:=[aE bc 52 (ak.enc a1),aE ba 52 (ak.enc a0)]++F) (fun ga:OV=>[own (bq .u8) ga.1 tc,aE bc 52 (ak.enc a1),aE ba 52 (ak.enc a0)]++F) Q T (cL 233) Q (cR.c hac) (ly (L:=[aE bc 52 (ak.enc a1),aE ba 52 (ak.enc a0)]) (F:=F) [0,1] Q Q Q) Q pE (fun ga _=>?_)
 refine el H fun te had H=>cx 3 [0,1,2] (cL 233) (cR.c had) pC fun gb _=>?_
 refine el H fun tg hae H=>pJ (B:=[own (bq .u8) ga.1 tc,own (bq .u8) gb.1 te]) 4 [1,0,2,3] (cL 232) (Pt.wT _ (ll.c hae) (.cons (pq (aa 0 Q)) (.cons (pq (aa 1 Q)) .nil)) lM) ?_
 refine Dv.lit (bq .i64) ([ta,tg]:List Int) (css:=[[vI ta],[vI tg]]) Q T oU U3 c3 z3 Q dc dc Q ⟨(cells_one (ah Q)),⟨(cells_one (ah Q)),T⟩⟩ Q Q Q<|el H fun tj haf H=>cl Q (cL 128) Q (bE.c haf)<|gq 1 ?_
 cases H.out; exact ek 4
theorem j4.c (h:j4.f k a0 a1=some r):Pt prog 107 [agg (ak.enc a0),agg (ak.enc a1)] (vB r):=by
 refine pf func107 h fun R0 F H=>?_
 refine wr 3 3<|Dv.box Q T Q cA nofun fun ba=>Dv.box Q T Q cA nofun fun bc=>go 1<|wd mX 12 0<|gl 1 [1]<|el H fun ta haa H=>cl Q (cL 168) Q (pV.c haa)<|gl 1 [0]<|el H fun tc hac H=>cl Q (cL 168) Q (pV.c hac)<|Dv.eqs [.int .i64 ta.aI,.string ta.ab,.string ta.aj,.string ta.ae,.bool ta.aq] [.int .i64 tc.aI,.string tc.ab,.string tc.aj,.string tc.ae,.bool tc.aq] Q T Q Q Q Q eg294 (fun _=>lP 2 dc (fun _=>KI ta tc))<|gp 1 ?_
 cases cc:decide (ta=tc)
 ·
  have H:=H.cf cc
  refine gq 6 ?_
  cases H.out; exact ek 2
 have H:=H.ct cc
 refine gl 2 [1,0]<|el H fun te had H=>Dv.call Q (gg Q) (cL 169) Q (lG.c had)<|gq 3 ?_
 cases H.out; exact ek 2
theorem da.c {p0_:OV} (h:da.f a0 a1 a2=some r):Tr prog 108 [eq p0_.1,vI a1,sl ak.K a2] [own ak.K p0_.1 a0] (γ:=OV) (fun _=>True) (fun g=>eq g.1) (fun g=>[own ak.K g.1 r]):=by
 unfold da.f at h
 obtain ⟨⟨h0,h1,h2,h3,h4⟩,h5⟩:=(aS.of h).an
 obtain rfl:=aS.out h5
 clear h h5
 obtain ⟨i,rfl⟩:=Int.eq_ofNat_of_zero_le h0
 have hi:i≤a0.length:=om
 obtain ⟨v,hv⟩:=p0_
 obtain ⟨ti,i1,i2,i3,i4⟩:=nO
 refine Tr.body func108 (c:=_) Q ntmps108 (Nat.le_of_ble_eq_true Q) fun R0 F=>WP.seq<|WP.q8 [(0,false)] kr<|go 1<|WP.seq<|WP.q8 [(0,false),(1,false),(2,false)] kr<|go 2<|Dv.sloa (Kd:=ak.K) (xs:=a0) (v:=v) Q T Q (aa 0 Q) eX gJ iy (eT (m:=i) Q) hi<|.fin<|WP.seq<|WP.q8 [(0,false),(1,false),(2,false)] kr<|go 1<|Dv.fk Q T Q eX<|go 1<|WP.seq<|WP.seq<|WP.q8 [(0,false),(1,false)] kr<|go 2<|WP.cond Q (fun c0=>?_) (fun c0=>?_)
 ·
  exfalso; have:=beq_iff_eq.1 c0; omega
 refine WP.skip<|WP.seq<|WP.q8 [(0,false),(1,false),(2,false)] kr<|go 1<|Dv.ko (Kd:=ak.K) (xs:=a0) (v:=v) Q T Q (aa 0 Q) eX<|go 1<|WP.seq<|WP.seq<|WP.q8 [(0,false),(1,false),(2,false)] kr<|go 3<|WP.cond Q (fun c1=>?_) (fun c1=>?_)
 ·
  have e1:i=a0.length:=by have:=beq_iff_eq.1 c1; omega
  subst e1
  refine WP.seq<|WP.q8 [(0,false),(1,false),(2,true),(3,false)] kr<|go 2<|Dv.E5 (Kd:=ak.K) (xs:=a0) (v:=v) (jj:=0) (ys:=a2) (fun v1:OV=>[own ak.K v1.1 (a0++a2)]++F) Q T Q Q Q bD eX (.inr ⟨_,eX⟩) nO Q dc om Q nofun (fun v1=>?_)
  refine gq 1 ?_
  have e2:a0.take (a0.length:Int).toNat++a2++a0.drop (a0.length:Int).toNat=a0++a2:=sM
  rw [e2]
  exact et v1 1 [0] 0
 refine WP.skip ?_
 have hlt:i<a0.length:=by have:¬ ((i:Int)=(a0.length:Int)):=(by simpa using c1); omega
 have hne:a0≠[]:=by intro e; subst e; simp at hlt
 rw [Int.toNat_natCast]
 refine wg (BD 0 Q hne) fun g hg=>?_
 rcases g with ⟨b,off,c,bT,A,C⟩
 change v = .slice (some ⟨b,off,none⟩) a0.length c∧a0.length≤c∧A.length=off∧off+c*ak.K.sz≤(A++a0.flatMap ak.K.enc++C).length at hg
 obtain ⟨rfl,hc,hA,hlen⟩:=hg
 change WP _ _ _ _ _ _ (aE b bT (A++a0.flatMap ak.K.enc++C)::F)
 have hsz:0<ak.K.sz:=dc
 have ml:∀ {p q:Nat},p≤q→p*ak.K.sz≤q*ak.K.sz:=fun h=>Nat.mul_le_mul_right _ h
 have fl:(A++a0.flatMap ak.K.enc++C).length=off+a0.length*ak.K.sz+C.length:=by rw [List.length_append,List.length_append,bJ,hA]
 have fd:((a0.drop i).flatMap ak.K.enc).length=(a0.length-i)*ak.K.sz:=by rw [bJ,List.length_drop]
 have fy:(a2.flatMap ak.K.enc).length=a2.length*ak.K.sz:=bJ _
 have s1:i*ak.K.sz+a2.length*ak.K.sz+(a0.length-i)*ak.K.sz=(a0.length+a2.length)*ak.K.sz:=by rw [← Nat.add_mul,← Nat.add_mul]; congr 1; omega
 have s2:(i+a2.length)*ak.K.sz=i*ak.K.sz+a2.length*ak.K.sz:=Nat.add_mul ..
 have zl:(a0.take i++a2++a0.drop i).length=a0.length+a2.length:=by simp only [List.length_append,List.length_take,List.length_drop]; omega
 refine WP.seq<|WP.seq<|WP.q8 [(0,false),(1,false),(2,false),(3,false),(4,false),(5,false)] kr<|go 2<|oh Q Q Q (nM (a:=a0.length) (b:=a2.length) om)<|go 1<|Dv.capk Q T Q eX<|go 1<|WP.cond Q (fun c2=>?_) (fun c2=>?_)
 ·
  have hg:c<a0.length+a2.length:=by have:=of_decide_eq_true c2; omega
  refine WP.seq<|WP.q8 [(0,false),(1,false),(2,false),(3,false),(4,false),(5,false),(6,false),(7,false),(8,true),(9,false)] kr<|go 2<|Dv.wD (o':=off) (m':=i) (c':=c) Q T Q eX gJ iy dM (eT (m:=i) Q) (Nat.zero_le _) om (.inr Q) sM sM sM<|go 2<|oh Q Q Q (nM (a:=a0.length) (b:=a2.length) om)<|go 1<|oh Q Q Q (GI (a:=a0.length+a2.length) (b:=i) om om)<|Dv.apmn (sz:=ak.K.sz) (jj:=0) (k1:=a0.length+a2.length-i) (N:=a0.length+a2.length) (Q:=(a0.take i).flatMap ak.K.enc) Q T Q Q eX U3 i1 i2 i3 i4 Q dc om om hg om h4 Q ?_ (HS (Kd:=ak.K) hi hA) nofun (fun w hw=>?_)
  ·
   rw [fl]; have:=ml (Nat.le_of_lt hlt); omega
  rcases w with ⟨b2,nc⟩
  replace hw:a0.length+a2.length≤nc:=hw
  refine gq 1 ?_
  generalize hZ:(Builtin.zeroCells (Value.cells _) ((b2,nc).2-i)).toList.map eq=Z
  have zz:Z.length=(nc-i)*ak.K.sz:=by rw [← hZ,List.length_map,Array.length_toList,Builtin.zeroCells,Array.size_map,Array.size_range]; rfl
  have ft:((a0.take i).flatMap ak.K.enc++Z).length=nc*ak.K.sz:=by rw [List.length_append,bJ,List.length_take,Nat.min_eq_left hi,zz,← Nat.add_mul]; congr 1; omega
  have s3:=ml hw
  have s4:i*ak.K.sz+(a0.length-i)*ak.K.sz=a0.length*ak.K.sz:=by rw [← Nat.add_mul]; congr 1; omega
  refine WP.seq<|WP.q8 [(0,false),(1,false),(2,false),(3,false),(4,true)] kr<|go 2<|Dv.wD (o':=i*ak.K.sz) (m':=a0.length+a2.length-i) (c':=nc-i) Q T Q eX gJ iy (eT (m:=i) Q) dM om hw (.inl (Nat.lt_of_lt_of_le om hw)) (Nat.zero_add _) Q Q<|go 1<|Dv.IJ (jj:=0) (kk:=a2.length) Q T Q Q eX gJ iy AS om Q ?_ nofun ?_
  ·
   rw [ft,fy]; omega
  refine .fin ?_
  have l1:(nX ((a0.take i).flatMap ak.K.enc++Z) (i*ak.K.sz) (a2.flatMap ak.K.enc)).length=nc*ak.K.sz:=by rw [uu (by rw [ft,fy]; omega),ft]
  refine WP.seq<|WP.Iq mX [(0,false),(1,false),(2,false),(3,false),(4,false),(5,false),(6,false),(7,false),(8,true)] kr<|go 3<|oh Q Q Q (nM (a:=i) (b:=a2.length) om)<|Dv.wD (o':=(i+a2.length)*ak.K.sz) (m':=a0.length-i) (c':=nc-(i+a2.length)) Q T Q eX gJ iy (eT (m:=i+a2.length) Q) dM om hw (.inl (Nat.lt_of_lt_of_le om hw)) (Nat.zero_add _) om Q<|go 2<|Dv.wD (o':=off+i*ak.K.sz) (m':=a0.length-i) (c':=c-i) Q T Q eX gJ iy (eT (m:=i) Q) dM hi hc (.inl om) Q Q Q<|Dv.IJ (jj:=0) (kk:=a0.length-i) Q T Q Q eX gJ iy (Aw (aa 1 Q) hi hA) (Nat.min_self _) Q ?_ (fun _=>fO kr) ?_
  ·
   rw [l1,fd]; omega
  refine .fin ?_
  have l2:(nX (nX ((a0.take i).flatMap ak.K.enc++Z) (i*ak.K.sz) (a2.flatMap ak.K.enc)) ((i+a2.length)*ak.K.sz) ((a0.drop i).flatMap ak.K.enc)).length=nc*ak.K.sz:=by rw [uu (by rw [l1,fd]; omega),l1]
  refine WP.seq<|WP.q8 [(0,false),(1,false)] kr<|go 2<|wg (wh (Kd:=ak.K) (off:=0) (n:=a0.length+a2.length) (c:=nc) (zs:=a0.take i++a2++a0.drop i) 0 Q zl hw (by rw [l2]; omega) (Hu hi)) fun _ _=>?_
  exact et (⟨.slice (some ⟨b2,0,none⟩) (a0.length+a2.length) nc,Q⟩:OV) 2 [1,0] 1
 have hg:a0.length+a2.length≤c:=by have:=of_decide_eq_false c2; omega
 refine WP.skip ?_
 have s3:=ml hg
 refine WP.seq<|WP.q8 [(0,false),(1,false),(2,false),(3,false),(4,false),(5,false)] kr<|go 3<|oh Q Q Q (nM (a:=a0.length) (b:=a2.length) om)<|Dv.wD (o':=off) (m':=a0.length+a2.length) (c':=c) Q T Q eX gJ iy dM (eT (m:=a0.length+a2.length) Q) (Nat.zero_le _) hg (.inr Q) sM sM sM<|go 1<|WP.seq<|WP.seq<|WP.q8 [(0,false),(1,false),(2,false),(3,false),(4,false),(5,false),(6,false),(7,false)] kr<|go 4<|oh Q Q Q (nM (a:=i) (b:=a2.length) om)<|Dv.wD (o':=off+(i+a2.length)*ak.K.sz) (m':=a0.length-i) (c':=c-(i+a2.length)) Q T Q eX gJ iy (eT (m:=i+a2.length) Q) dM om hg (.inl (Nat.lt_of_lt_of_le om hg)) Q om Q<|Dv.ovl Q T Q Q (aa 0 Q) h2 hsz func170 kr Q xf170 xg170 Q eX gJ<|go 1<|WP.cond Q (fun c3=>?_) (fun c3=>by cases c3)
 refine WP.seq<|WP.Iq mX [(0,false),(1,false),(2,false),(3,false),(4,false),(5,false),(6,false),(7,false),(8,true)] kr<|go 3<|oh Q Q Q (nM (a:=i) (b:=a2.length) om)<|Dv.wD (o':=off+(i+a2.length)*ak.K.sz) (m':=a0.length-i) (c':=c-(i+a2.length)) Q T Q eX gJ iy (eT (m:=i+a2.length) Q) dM om hg (.inl (Nat.lt_of_lt_of_le om hg)) Q om Q<|go 2<|Dv.wD (o':=off+i*ak.K.sz) (m':=a0.length+a2.length-i) (c':=c-i) Q T Q eX gJ iy (eT (m:=i) Q) dM om hg (.inl om) Q Q Q<|Dv.IJ (jj:=0) (kk:=a0.length-i) Q T Q Q eX gJ iy (Aw (aa 0 Q) hi hA) om Q ?_ (fun _=>fO kr) ?_
 ·
  rw [fd]; omega
 refine .fin ?_
 have l1:(nX (A++a0.flatMap ak.K.enc++C) (off+(i+a2.length)*ak.K.sz) ((a0.drop i).flatMap ak.K.enc)).length=(A++a0.flatMap ak.K.enc++C).length:=uu (by rw [fd]; omega)
 refine WP.seq<|WP.q8 [(0,false),(1,false),(2,false),(3,false),(4,true)] kr<|go 2<|Dv.wD (o':=off+i*ak.K.sz) (m':=a0.length+a2.length-i) (c':=c-i) Q T Q eX gJ iy (eT (m:=i) Q) dM om hg (.inl om) Q Q Q<|go 1<|Dv.IJ (jj:=0) (kk:=a2.length) Q T Q Q eX gJ iy AS om Q ?_ nofun ?_
 ·
  rw [l1,fy]; omega
 refine .fin<|WP.seq<|WP.q8 [(0,false),(1,false)] kr<|go 2<|wg (wh (Kd:=ak.K) (off:=off) (n:=a0.length+a2.length) (c:=c) (zs:=a0.take i++a2++a0.drop i) 0 Q zl hg (by rw [uu (by rw [l1,fy]; omega),l1]; exact hlen) (Jb hi hA om)) fun _ _=>?_
 exact et (⟨.slice (some ⟨b,off,none⟩) (a0.length+a2.length) c,Q⟩:OV) 1 [0] 0
theorem dA.c {p0_:OV} (h:dA.f a0 a1 a2=some r):Tr prog 172 [eq p0_.1,vI a1,agg (dq.enc a2)] [aP.O p0_ a0] (γ:=Unit) (fun _=>True) (fun g=>lu []) (fun g=>[aP.O p0_ r]):=by
 refine tf func172 h fun R0 F H=>?_
 refine wr 1 1<|Dv.box Q T Q cA nofun fun ba=>.fin<|WP.seq<|wg (aP.jf 1 Q) fun ga haa=>?_
 refine dg mX 8 128<|go 1<|Dv.bU haa Q T Q<|fp haa Q T Q iu<|gl 3 [0,3]<|gr H fun gb H=>?_
 have hac:a1.toNat<a0.fl.length:=bp gb
 refine Dv.jX Q T Q (aa 1 Q) Q ox nE nZ gb.1 gb.2<|Dv.IK (j:=a1.toNat) (f:=0) (jj:=1) a2 Q T Q Q (aR (dq.K.one _)) nE nZ Q Q hac (Nat.le_of_ble_eq_true Q) Q (fun _=>fO kr)<|.fin<|dg mX 8 128<|go 1<|Dv.bU haa Q T Q<|fp haa Q T Q ur<|gl 4 [0,3]<|Dv.mup (jj:=2) a1 Q T Q Q Q Q tW (dV U9) (fun _=>fO kr)<|.fin<|ng (aP.shut (p:=p0_) (m:=(⟨a0.fl.set a1.toNat a2,mput a0.iU a2.dw a1⟩:aP)) (ga.1,ga.2.1,ga.2.2) haa (pm 4 [0,1,2,3])) fun _ _=>?_
 obtain rfl:=aS.out H
 exact re Q () 2 [1,0] 1 .nil
theorem heap_ahead.c (h:heap_ahead.f k a0 a1=some r):Pt prog 235 [agg (dq.enc a0),agg (dq.enc a1)] (vI r):=by
 refine pf func235 h fun R0 F H=>?_
 refine wr 3 3<|Dv.box Q T Q cA nofun fun ba=>Dv.box Q T Q cA nofun fun bc=>go 1<|wd mX 13 0<|gl 4 [1,0]<|el H fun ta haa H=>cl Q (cL 129) Q (b7.c haa)<|gl 4 [1,0]<|el H fun tc hac H=>cl Q (cL 65) Q (aD.c hac)<|Dv.lit (bq .i64) ([ta,tc]:List Int) (css:=[[vI ta],[vI tc]]) Q T oU U3 c3 z3 Q dc dc Q ⟨(cells_one (ah Q)),⟨(cells_one (ah Q)),T⟩⟩ Q Q Q<|el H fun te had H=>cl Q (cL 128) Q (bE.c had)<|gq 1 ?_
 cases H.out; exact ek 2
theorem heap_Heap_down.c {p0_:OV} (h:heap_Heap_down.f k a0 a1=some r):Tr prog 173 [eq p0_.1,vI a1] [aP.O p0_ a0] (γ:=Unit) (fun _=>True) (fun g=>lu []) (fun g=>[aP.O p0_ r]):=by
 refine tf func173 h fun R0 F H=>?_
 refine wr 9 384<|go 1<|Dv.qx aP.nn Q T Q (aa 0 Q)<|vg (aP.jf 0 Q) fun ga haa=>?_
 refine fp haa Q T Q iu<|gl 2 [0]<|gr H fun gb H=>?_
 have hac:a1.toNat<a0.fl.length:=bp gb
 refine Dv.jX Q T Q (aa 1 Q) Q ox nE nZ gb.1 gb.2<|Dv.pM (j:=a1.toNat) (f:=0) Q T Q (aa 1 Q) hac nE Q nZ (Nat.le_of_ble_eq_true Q)<|al Q T GR nofun fun ba=>sy 0 ?_
 refine .fin<|WP.jh H id (fun pa=>[(0,eq p0_.1),(1,vI pa.1),(4,ey ba)]) (fun pa=>[aE ba 299 (dq.enc (a0.fl.getD a1.toNat default)),aP.O p0_ pa.2.2.2.2]++F) (fun pa H=>?_) (fun H=>?_)
 ·
  refine rg 4 8<|gl 3 [0]<|el H fun ta had H=>cx 2 [1,0] (cL 172) (dA.c had (p0_:=p0_)) nofun fun _ _=>?_
  refine .fin ?_
  obtain rfl:=aS.out H
  exact re Q () 2 [1,0] 1 .nil
 refine WP.block<|wg (aP.shut (p:=p0_) (m:=a0) (ga.1,ga.2.1,ga.2.2) haa (pm 4 [1,2,3,0])) fun _ _=>?_
 refine ws 2 [1,0] 0 ?_
 refine lq (fun j_ (pc:Int×aP)=>heap_Heap_down.l0 k a0 a1 j_ pc.1 pc.2) (a1,a0) H [0,4] (fun pc=>[(1,vI pc.1)]) (fun pc=>[(1,aP.O p0_ pc.2)]) ?_
 rintro j_ ⟨xc,xd⟩ H
 rcases j_ with _ | ja
 ·
  exact (aS.no H).elim
 try dsimp only at H
 rw [heap_Heap_down.l0] at H
 refine WP.block<|so<|WP.jh H id (fun pe=>[(0,eq p0_.1),(1,vI xc),(4,ey ba),(5,vI pe.1)]) (fun pe=>[aE ba 299 (dq.enc (a0.fl.getD a1.toNat default)),aP.O p0_ xd]++F) (fun pe H=>?_) (fun H=>?_)
 ·
  refine WP.seq<|WP.seq<|wg (aP.jf 1 Q) fun gi hae=>?_
  refine dg mX 19 0<|go 2<|Dv.bU hae Q T Q<|fp hae Q T Q iu<|gl 1 [0]<|Dv.ko Q T Q (aa 1 Q) ox<|gp 2 ?_
  cases cc:decide ((xd.fl.length:Int)≤pe.1)
  rotate_left
  ·
   have H:=H.ct cc
   refine go 11<|WP.cond Q (fun _=>?_) nofun
   refine WP.exit ?_
   have H:=H.out
   refine ng (aP.shut (p:=p0_) (m:=xd) (gi.1,gi.2.1,gi.2.2) hae (pm 4 [0,1,2,3])) fun _ _=>?_
   refine ns 2 [1,0] 0 ?_
   exact jn (xc,pe.1,pe.2,true,xd) H
  have H:=H.cf cc
  refine gl 2 [3]<|Dv.bU hae Q (gg Q) Q<|fp hae Q (gg Q) Q iu<|gl 2 [0]<|gr H fun gj H=>?_
  have haf:pe.1.toNat<xd.fl.length:=bp gj
  refine Dv.jX Q (gg Q) Q (aa 1 Q) Q ox nE nZ gj.1 gj.2<|Dv.pM (j:=pe.1.toNat) (f:=0) Q (gg Q) Q (aa 1 Q) haf nE Q nZ (Nat.le_of_ble_eq_true Q)<|el H fun tc hag H=>Dv.call Q (gg Q) (cL 235) Q (heap_ahead.c hag)<|go 2<|ce H ?_ ?_ <;> intro H
  ·
   refine WP.exit ?_
   have H:=H.out
   refine ng (aP.shut (p:=p0_) (m:=xd) (gi.1,gi.2.1,gi.2.2) hae (pm 4 [0,1,2,3])) fun _ _=>?_
   refine ns 2 [1,0] 0 ?_
   exact jn (xc,pe.1,pe.2,decide (tc<0),xd) H
  refine WP.skip<|wr 10 512<|go 3<|Dv.bU hae Q T Q<|fp hae Q T Q iu<|gl 2 [0]<|gr H fun gk H=>?_
  have hah:pe.1.toNat<xd.fl.length:=bp gk
  refine Dv.jX Q T Q (aa 1 Q) Q ox nE nZ gk.1 gk.2<|Dv.pM (j:=pe.1.toNat) (f:=0) Q T Q (aa 1 Q) hah nE Q nZ (Nat.le_of_ble_eq_true Q)<|vg (aP.shut (p:=p0_) (m:=xd) (gi.1,gi.2.1,gi.2.2) hae (pm 4 [0,1,2,3])) fun _ _=>?_
  refine el H fun te hai H=>cx 2 [0,1] (cL 172) (dA.c hai (p0_:=p0_)) nofun fun _ _=>?_
  refine .fin<|rg 2 0<|go 2<|ns 2 [1,0] 0 ?_
  exact bk ja (pe.1,te) H
 refine WP.seq<|wg (aP.jf 1 Q) fun gm haj=>?_
 refine dg mX 27 0<|go 3<|Dv.bU haj Q T Q<|fp haj Q T Q iu<|gl 1 [0]<|Dv.ko Q T Q (aa 1 Q) ox<|gp 2 ?_
 cases cg:decide ((av ((av ((av (2*xc))+1))+1))<(xd.fl.length:Int))
 ·
  have H:=H.cf cg
  refine go 18<|WP.cond Q nofun (fun _=>?_)
  refine WP.skip ?_
  have H:=H.out
  refine ng (aP.shut (p:=p0_) (m:=xd) (gm.1,gm.2.1,gm.2.2) haj (pm 4 [0,1,2,3])) fun _ _=>?_
  refine ns 2 [1,0] 0 ?_
  exact jn (av ((av (2*xc))+1),false) H
 have H:=H.ct cg
 refine go 1<|Dv.bU haj Q (gg Q) Q<|fp haj Q (gg Q) Q iu<|gl 3 [0]<|gr H fun gn H=>?_
 have hak:(av ((av ((av (2*xc))+1))+1)).toNat<xd.fl.length:=bp gn
 refine Dv.jX Q (gg Q) Q (aa 1 Q) Q ox nE nZ gn.1 gn.2<|Dv.pM (j:=((av ((av ((av (2*xc))+1))+1)).toNat)) (f:=0) Q (gg Q) Q (aa 1 Q) hak nE Q nZ (Nat.le_of_ble_eq_true Q)<|go 1<|Dv.bU haj Q (gg Q) Q<|fp haj Q (gg Q) Q iu<|gl 2 [0]<|gr H fun gu H=>?_
 have ham:(av ((av (2*xc))+1)).toNat<xd.fl.length:=bp gu
 refine Dv.jX Q (gg Q) Q (aa 1 Q) Q ox nE nZ gu.1 gu.2<|Dv.pM (j:=((av ((av (2*xc))+1)).toNat)) (f:=0) Q (gg Q) Q (aa 1 Q) ham nE Q nZ (Nat.le_of_ble_eq_true Q)<|el H fun tg han H=>Dv.call Q (gg Q) (cL 235) Q (heap_ahead.c han)<|go 2<|cf H ?_ ?_ <;> intro H
 ·
  refine WP.skip ?_
  have H:=H.out
  refine ng (aP.shut (p:=p0_) (m:=xd) (gm.1,gm.2.1,gm.2.2) haj (pm 4 [0,1,2,3])) fun _ _=>?_
  refine ns 2 [1,0] 0 ?_
  exact jn (av ((av (2*xc))+1),decide (tg<0)) H
 refine rg 3 0<|gq 3 ?_
 have H:=H.out
 refine ng (aP.shut (p:=p0_) (m:=xd) (gm.1,gm.2.1,gm.2.2) haj (pm 4 [0,1,2,3])) fun _ _=>?_
 refine ns 2 [1,0] 0 ?_
 exact jn (av ((av ((av (2*xc))+1))+1),decide (tg<0)) H
theorem cZ.c {p0_:OV} (h:cZ.f k a0 a1=some r):Tr prog 174 [eq p0_.1,vI a1] [aP.O p0_ a0] (γ:=Unit) (fun _=>True) (fun g=>lu []) (fun g=>[aP.O p0_ r]):=by
 refine tf func174 h fun R0 F H=>?_
 refine wr 9 384<|go 1<|Dv.qx aP.nn Q T Q (aa 0 Q)<|vg (aP.jf 0 Q) fun ga haa=>?_
 refine fp haa Q T Q iu<|gl 2 [0]<|gr H fun gb H=>?_
 have hac:a1.toNat<a0.fl.length:=bp gb
 refine Dv.jX Q T Q (aa 1 Q) Q ox nE nZ gb.1 gb.2<|Dv.pM (j:=a1.toNat) (f:=0) Q T Q (aa 1 Q) hac nE Q nZ (Nat.le_of_ble_eq_true Q)<|al Q T GR nofun fun ba=>sy 0 ?_
 refine .fin<|WP.jh H id (fun pa=>[(0,eq p0_.1),(1,vI pa.1),(4,ey ba)]) (fun pa=>[aE ba 299 (dq.enc (a0.fl.getD a1.toNat default)),aP.O p0_ pa.2.2]++F) (fun pa H=>?_) (fun H=>?_)
 ·
  refine rg 4 8<|gl 3 [0]<|el H fun ta had H=>cx 2 [1,0] (cL 172) (dA.c had (p0_:=p0_)) nofun fun _ _=>?_
  refine .fin ?_
  obtain rfl:=aS.out H
  exact re Q () 2 [1,0] 1 .nil
 refine WP.block<|wg (aP.shut (p:=p0_) (m:=a0) (ga.1,ga.2.1,ga.2.2) haa (pm 4 [1,2,3,0])) fun _ _=>?_
 refine ws 2 [1,0] 0 ?_
 refine lq (fun j_ (pc:Int×aP)=>cZ.l0 k a0 a1 j_ pc.1 pc.2) (a1,a0) H [0,4] (fun pc=>[(1,vI pc.1)]) (fun pc=>[(1,aP.O p0_ pc.2)]) ?_
 rintro j_ ⟨xc,xd⟩ H
 rcases j_ with _ | ja
 ·
  exact (aS.no H).elim
 try dsimp only at H
 rw [cZ.l0] at H
 refine WP.seq<|WP.seq<|wg (aP.jf 1 Q) fun gi hae=>?_
 refine dg mX 16 0<|gp 3 ?_
 cases cc:decide (0<xc)
 ·
  have H:=H.cf cc
  refine go 13<|WP.cond Q nofun (fun _=>?_)
  refine WP.exit ?_
  have H:=H.out
  refine ng (aP.shut (p:=p0_) (m:=xd) (gi.1,gi.2.1,gi.2.2) hae (pm 4 [0,1,2,3])) fun _ _=>?_
  refine ns 2 [1,0] 0 ?_
  exact jn (xc,false,xd) H
 have H:=H.ct cc
 refine gl 2 [3]<|Dv.bU hae Q (gg Q) Q<|fp hae Q (gg Q) Q iu<|gl 3 [0]<|bng Q Q Q Q (oa dc)<|gr H fun gj H=>?_
 have haf:(av ((av (xc-1)).tdiv 2)).toNat<xd.fl.length:=bp gj
 refine Dv.jX Q (gg Q) Q (aa 1 Q) Q ox nE nZ gj.1 gj.2<|Dv.pM (j:=((av ((av (xc-1)).tdiv 2)).toNat)) (f:=0) Q (gg Q) Q (aa 1 Q) haf nE Q nZ (Nat.le_of_ble_eq_true Q)<|el H fun tc hag H=>Dv.call Q (gg Q) (cL 235) Q (heap_ahead.c hag)<|go 2<|cf H ?_ ?_ <;> intro H
 ·
  refine WP.exit ?_
  have H:=H.out
  refine ng (aP.shut (p:=p0_) (m:=xd) (gi.1,gi.2.1,gi.2.2) hae (pm 4 [0,1,2,3])) fun _ _=>?_
  refine ns 2 [1,0] 0 ?_
  exact jn (xc,decide (tc<0),xd) H
 refine WP.skip<|WP.block<|wr 12 2048<|go 3<|Dv.bU hae Q T Q<|fp hae Q T Q iu<|gl 3 [0]<|oh Q Q Q (oa dc)<|gr H fun gk H=>?_
 have hah:(av ((av (xc-1)).tdiv 2)).toNat<xd.fl.length:=bp gk
 refine Dv.jX Q T Q (aa 1 Q) Q ox nE nZ gk.1 gk.2<|Dv.pM (j:=((av ((av (xc-1)).tdiv 2)).toNat)) (f:=0) Q T Q (aa 1 Q) hah nE Q nZ (Nat.le_of_ble_eq_true Q)<|vg (aP.shut (p:=p0_) (m:=xd) (gi.1,gi.2.1,gi.2.2) hae (pm 4 [0,1,2,3])) fun _ _=>?_
 refine el H fun te hai H=>cx 2 [0,1] (cL 172) (dA.c hai (p0_:=p0_)) nofun fun _ _=>?_
 refine .fin<|rg 4 0<|go 2<|oh Q Q Q (oa dc)<|go 1<|ns 2 [1,0] 0 ?_
 exact bk ja (av ((av (xc-1)).tdiv 2),te) H
theorem dt.c {p0_:OV} (h:dt.f k a0 a1=some r):Tr prog 109 [eq p0_.1,vS a1] [aP.O p0_ a0] (γ:=Unit) (fun _=>True) (fun g=>vB r.1) (fun g=>[aP.O p0_ r.2]):=by
 refine tf func109 h fun R0 F H=>?_
 refine so<|wr 11 0<|go 1<|Dv.qx aP.nn Q T Q (aa 0 Q)<|vg (aP.jf 0 Q) fun ga haa=>?_
 refine fp haa Q T Q ur<|gl 2 [0]<|Dv.mlk 0 Q T Q (aa 2 Q) Q tW (dV U9) z3 (fun _=>Q)<|go 1<|eF Q T Q Q<|eF Q T Q Q<|go 2<|WP.seq<|so<|ce H ?_ ?_ <;> intro H
 ·
  refine so<|wg (aP.shut (p:=p0_) (m:=a0) (ga.1,ga.2.1,ga.2.2) haa (pm 3 [0,1,2])) fun _ _=>?_
  cases H.out; exact et () 1 [0] 0
 refine WP.skip<|wr 6 32<|go 1<|Dv.bU haa Q T Q<|fp haa Q T Q ur<|gl 2 [0]<|Dv.mdl (jj:=2) Q T Q Q Q tW (dV U9) nofun<|.fin<|wr 7 0<|go 1<|Dv.bU haa Q T Q<|fp haa Q T Q iu<|gl 1 [0]<|Dv.ko Q T Q (aa 1 Q) ox<|go 2<|wr 9 384<|go 1<|Dv.bU haa Q T Q<|fp haa Q T Q iu<|gl 2 [0]<|gr H fun gb H=>?_
 have hac:(av ((a0.fl.length:Int)-1)).toNat<a0.fl.length:=bp gb
 refine Dv.jX Q T Q (aa 1 Q) Q ox nE nZ gb.1 gb.2<|Dv.pM (j:=((av ((a0.fl.length:Int)-1)).toNat)) (f:=0) Q T Q (aa 1 Q) hac nE Q nZ (Nat.le_of_ble_eq_true Q)<|al Q T GR nofun fun ba=>sy 0 ?_
 refine .fin<|wr 10 576<|go 2<|Dv.bU haa Q T Q<|fp haa Q T Q iu<|gl 2 [1]<|gr H fun gi H=>Dv.slo (jj:=2) Q T Q Q ox nE nZ dM (eY Q gi.1) (.inl Q) gi.2.1 gi.2.2 nofun (fun va=>?_)
 refine Dv.bU haa Q T Q<|fp haa Q T Q iu<|sx 1 Q T Q Q (cells_one bG) JP Q Q Q nofun ?_
 refine .fin<|WP.seq<|so<|cf H ?_ ?_ <;> intro H
 ·
  refine WP.skip<|so<|wg (aP.shut (p:=p0_) (m:=(⟨(a0.fl.take ((av ((a0.fl.length:Int)-1)).toNat)).drop 0,l6 a0.iU a1⟩:aP)) (ga.1,va,ga.2.2) haa (pm 4 [1,2,3,0])) fun _ _=>?_
  cases H.out; exact et () 2 [1,0] 1
 refine wr 4 8<|gl 3 [0]<|vg (aP.shut (p:=p0_) (m:=(⟨(a0.fl.take ((av ((a0.fl.length:Int)-1)).toNat)).drop 0,l6 a0.iU a1⟩:aP)) (ga.1,va,ga.2.2) haa (pm 4 [1,2,3,0])) fun _ _=>?_
 refine el H fun ta had H=>cx 2 [0,1] (cL 172) (dA.c had (p0_:=p0_)) nofun fun _ _=>?_
 refine .fin<|wr 3 4<|go 2<|el H fun tc hae H=>cx 2 [0,1] (cL 173) (heap_Heap_down.c hae (p0_:=p0_)) nofun fun _ _=>?_
 refine .fin<|wg (aP.jf 0 Q) fun gj haf=>?_
 refine dg mX 9 256<|go 2<|Dv.bU haf Q T Q<|fp haf Q T Q ur<|gl 3 [0,3]<|Dv.GJ 0 Q T Q (aa 2 Q) Q tW (dV U9) z3 (fun _=>Q)<|el H fun te hag H=>cx 4 [0,1,2,3] (cL 174) (Tr.pre (pre':=[aE gj.1 261 [eq gj.2.1.1,eq gj.2.2.1],own dq.K gj.2.1.1 tc.fl,mp Value.string (fun x:Int=>vI x) gj.2.2.1 tc.iU]) (cZ.c hag (p0_:=p0_)) (fun F R w=>aP.shut (p:=p0_) (m:=tc) (r:=F) (gj.1,gj.2.1,gj.2.2) haf (List.Perm.refl _) R w)) pC fun _ _=>?_
 refine .fin<|sp ?_
 cases H.out; exact et () 2 [1,0] 1
theorem eW.c {p0_:OV} (h:eW.f k a0 a1 a2=some r):Tr prog 110 [eq p0_.1,vI a1,vS a2] [aP.O p0_ a0] (γ:=Unit) (fun _=>True) (fun g=>lu []) (fun g=>[aP.O p0_ r]):=by
 refine tf func110 h fun R0 F H=>?_
 refine wr 3 4<|go 2<|el H fun ta haa H=>cx 1 [0] (cL 109) (dt.c haa (p0_:=p0_)) nofun fun _ _=>?_
 refine .fin<|wr 13 4608<|go 2<|Dv.qx aP.nn Q T Q (aa 0 Q)<|vg (aP.jf 0 Q) fun ga hac=>?_
 refine fp hac Q T Q iu<|gl 3 [0]<|Dv.kL (qs:=[vI a1,vS a2]) (css:=[[vI a1],[vS a2]]) Q T nE pl299 Ln Q ⟨(cells_one (ah Q)),⟨(cells_one (ah Q)),T⟩⟩ Q Q<|Dv.lit dq.K ([(⟨a1,a2⟩:dq)]:List dq) (css:=[[vI a1,vS a2]]) Q T ox nE nZ Ln Q dc dc Q ⟨(aR (ai (ah Q) (ai (ah Q) bM))),T⟩ Q Q Q<|gr H fun gb H=>ap dq.K 1 ([(⟨a1,a2⟩:dq)]:List dq) bD ox (.inr ⟨_,ox⟩) LB gb nofun fun va=>?_
 refine Dv.bU hac Q T Q<|fp hac Q T Q iu<|sx 0 Q T Q Q (cells_one bG) JP Q Q Q nofun ?_
 refine .fin<|rg 8 128<|go 2<|Dv.bU hac Q T Q<|fp hac Q T Q iu<|gl 1 [0]<|Dv.ko Q T Q (aa 1 Q) ox<|go 1<|vg (aP.shut (p:=p0_) (m:=(⟨ta.2.fl++([(⟨a1,a2⟩:dq)]:List dq),ta.2.iU⟩:aP)) (ga.1,va,ga.2.2) hac (pm 3 [0,1,2])) fun _ _=>?_
 refine el H fun tc had H=>cx 1 [0] (cL 174) (cZ.c had (p0_:=p0_)) nofun fun _ _=>?_
 refine .fin ?_
 obtain rfl:=aS.out H
 exact re Q () 1 [0] 0 .nil
theorem jB.c (h:jB.f a0=some r):Pt prog 111 [agg (ak.enc a0)] (vI r):=by
 refine pf func111 h fun R0 F H=>?_
 refine wr 2 1<|Dv.box Q T Q cA nofun fun ba=>go 1<|spj [0,0] ?_
 cases H.out; exact ek 1
theorem fJ.c {p0_:OV} (h:fJ.f k a0 a1=some r):Tr prog 43 [eq p0_.1,agg (ak.enc a1)] [bX.O p0_ a0] (γ:=Unit) (fun _=>True) (fun g=>lu [vB r.1,vI r.2.1]) (fun g=>[bX.O p0_ r.2.2]):=by
 refine tf func43 h fun R0 F H=>?_
 refine wr 3 1<|Dv.box Q T Q cA nofun fun ba=>go 2<|WP.seq<|wr 8 0<|kU 4 [0] ?_
 cases cc:(a1.aI != 2)
 rotate_left
 ·
  have H:=H.ct cc
  refine go 4<|WP.cond Q (fun _=>?_) nofun
  refine sp ?_
  cases H.out; exact et () 2 [0,1] 1
 have H:=H.cf cc
 refine gl 1 [0]<|el H fun ta haa H=>Dv.call Q (gg Q) (cL 105) Q (mw.c haa)<|go 2<|ce H ?_ ?_ <;> intro H
 ·
  refine sp ?_
  cases H.out; exact et () 2 [0,1] 1
 refine WP.skip<|wr 8 0<|gl 2 [0]<|vg (bX.jf 1 Q) fun ga hac=>?_
 refine el H fun tc had H=>pJ 4 [0,1,2,3] (cL 106) (Tr.kn (dW.c had (b0_:=ga.1) (v0_0:=ga.2.1) (v0_1:=ga.2.2)) (.cons (iX hac) (.cons bV .nil))) ?_
 refine go 1<|eF Q T Q Q<|eF Q T Q Q<|go 2<|WP.yL H id (fun pa=>[(0,eq p0_.1),(3,ey ba)]) (fun pa=>[aE ba 52 (ak.enc a1),bX.O p0_ pa.2.2.2]++F) (fun pa H=>?_) (fun H=>?_)
 ·
  refine wr 7 0<|gl 2 [0]<|gr H fun gb H=>oh Q Q Q (iH gb)<|gl 2 [0]<|gr H fun gi H=>oh Q Q Q (iH gi)<|go 1<|wr 6 32<|go 1<|Dv.qx bX.nn Q T Q (aa 1 Q)<|vg (bX.jf 1 Q) fun gj hae=>?_
  refine fp hae Q T Q CL<|gl 2 [0]<|el H fun te haf H=>cx 4 [2,0,1,3] (cL 109) (dt.c haf (p0_:=gj.2.2)) nofun fun _ _=>?_
  refine .fin<|WP.seq<|su [3]<|cf H ?_ ?_ <;> intro H
  ·
   refine WP.skip<|so<|wg (bX.shut (p:=p0_) (m:=(⟨pa.2.2.2.fl,te.2⟩:bX)) (gj.1,gj.2.1,gj.2.2) hae (pm 4 [1,2,0,3])) fun _ _=>?_
   cases H.out; exact et () 2 [1,0] 1
  refine dg mX 8 128<|go 1<|Dv.bU hae Q T Q<|fp hae Q T Q CL<|gl 2 [1,3]<|el H fun tg hag H=>cl Q (cL 111) Q (jB.c hag)<|go 1<|el H fun tj hah H=>cx 4 [0,1,2,3] (cL 110) (eW.c hah (p0_:=gj.2.2)) pC fun _ _=>?_
  refine .fin<|so<|wg (bX.shut (p:=p0_) (m:=(⟨pa.2.2.2.fl,tj⟩:bX)) (gj.1,gj.2.1,gj.2.2) hae (pm 4 [1,2,0,3])) fun _ _=>?_
  cases H.out; exact et () 2 [1,0] 1
 refine WP.block<|wd mX 25 0<|gp 2 ?_
 cases cg:tc.2
 ·
  have H:=H.cf cg
  refine go 23<|WP.cond Q nofun (fun _=>?_)
  refine so<|WP.cond Q nofun (fun _=>?_)
  refine dg mX 12 2304<|go 2<|Dv.bU hac Q T Q<|fp hac Q T Q sj<|gl 3 [0,3]<|Dv.lit ak.K ([a1]:List ak) (css:=[ak.enc a1]) Q T eX gJ iy wm Q dc dc Q ⟨(aR (ak.K.one _)),T⟩ Q Q Q<|el H fun tm hai H=>Dv.uK (pre:=[own ak.K ga.2.1.1 a0.fl]) (F:=[aE ga.1 190 [eq ga.2.1.1,eq ga.2.2.1],aP.O ga.2.2 a0.gU,aE ba 52 (ak.enc a1)]++F) (fun gk:OV=>[own ak.K gk.1 tm,aE ga.1 190 [eq ga.2.1.1,eq ga.2.2.1],aP.O ga.2.2 a0.gU,aE ba 52 (ak.enc a1)]++F) Q T (cL 108) Q (da.c hai (p0_:=ga.2.1)) (ly (L:=[aE ga.1 190 [eq ga.2.1.1,eq ga.2.2.1],own ak.K ga.2.1.1 a0.fl,aP.O ga.2.2 a0.gU,aE ba 52 (ak.enc a1)]) (F:=F) [1,0,2,3] Q Q Q) Q pE (fun gk _=>?_)
  refine Dv.bU hac Q T Q<|fp hac Q T Q sj<|sx 1 Q T Q Q (cells_one bG) r8 Q Q Q pB ?_
  refine .fin ?_
  have H:=H.out
  refine ng (bX.shut (p:=p0_) (m:=(⟨tm,a0.gU⟩:bX)) (ga.1,gk,ga.2.2) hac (pm 4 [1,0,2,3])) fun _ _=>?_
  refine ns 2 [1,0] 0 ?_
  exact jn (false,false,false,(⟨tm,a0.gU⟩:bX)) H
 have H:=H.ct cg
 refine go 1<|Dv.bU hac Q (gg Q) Q<|fp hac Q (gg Q) Q sj<|gl 2 [0]<|gr H fun gm H=>?_
 have haj:tc.1.toNat<a0.fl.length:=bp gm
 refine Dv.jX Q (gg Q) Q (aa 1 Q) Q eX gJ iy gm.1 gm.2<|Dv.pM (j:=tc.1.toNat) (f:=0) Q (gg Q) Q (aa 1 Q) haj gJ Q iy (Nat.le_of_ble_eq_true Q)<|gl 1 [3]<|Dv.eqs [.int .i64 ((a0.fl.getD tc.1.toNat default).aI),.string ((a0.fl.getD tc.1.toNat default).ab),.string ((a0.fl.getD tc.1.toNat default).aj),.string ((a0.fl.getD tc.1.toNat default).bH),.string ((a0.fl.getD tc.1.toNat default).ae),.bool ((a0.fl.getD tc.1.toNat default).aq),.bool ((a0.fl.getD tc.1.toNat default).kl),.int .i64 ((a0.fl.getD tc.1.toNat default).bW),.int .i64 ((a0.fl.getD tc.1.toNat default).aQ),.int .i64 ((a0.fl.getD tc.1.toNat default).aU),.int .i64 ((a0.fl.getD tc.1.toNat default).aZ)] [.int .i64 a1.aI,.string a1.ab,.string a1.aj,.string a1.bH,.string a1.ae,.bool a1.aq,.bool a1.kl,.int .i64 a1.bW,.int .i64 a1.aQ,.int .i64 a1.aU,.int .i64 a1.aZ] Q (gg Q) Q Q Q Q IF (fun _=>lP 2 dc (fun _=>Cp (a0.fl.getD tc.1.toNat default) a1))<|gp 1 ?_
 cases ci:decide (a0.fl.getD tc.1.toNat default=a1)
 rotate_left
 ·
  have H:=H.ct ci
  refine go 13<|WP.cond Q (fun _=>?_) nofun
  refine so<|wg (bX.shut (p:=p0_) (m:=a0) (ga.1,ga.2.1,ga.2.2) hac (pm 4 [0,1,2,3])) fun _ _=>?_
  have H:=H.fg
  cases H.out; exact et () 2 [1,0] 1
 have H:=H.cf ci
 refine gl 2 [3]<|Dv.bU hac Q (gg Q) Q<|fp hac Q (gg Q) Q sj<|gl 2 [0]<|gr H fun gn H=>?_
 have hak:tc.1.toNat<a0.fl.length:=bp gn
 refine Dv.jX Q (gg Q) Q (aa 1 Q) Q eX gJ iy gn.1 gn.2<|Dv.pM (j:=tc.1.toNat) (f:=0) Q (gg Q) Q (aa 1 Q) hak gJ Q iy (Nat.le_of_ble_eq_true Q)<|el H fun tn ham H=>Dv.call Q (gg Q) (cL 107) Q (j4.c ham)<|go 4<|ce H ?_ ?_ <;> intro H
 ·
  refine so<|wg (bX.shut (p:=p0_) (m:=a0) (ga.1,ga.2.1,ga.2.2) hac (pm 4 [0,1,2,3])) fun _ _=>?_
  have H:=H.fg
  cases H.out; exact et () 2 [1,0] 1
 refine so<|WP.cond Q (fun _=>?_) nofun
 refine dg mX 8 128<|go 1<|Dv.bU hac Q T Q<|fp hac Q T Q sj<|gl 3 [0,3]<|gr H fun gu H=>?_
 have han:tc.1.toNat<a0.fl.length:=bp gu
 refine Dv.jX Q T Q (aa 1 Q) Q eX gJ iy gu.1 gu.2<|Dv.IK (j:=tc.1.toNat) (f:=0) (jj:=1) a1 Q T Q Q (aR (ak.K.one _)) gJ iy Q Q han (Nat.le_of_ble_eq_true Q) Q (fun _=>fO kr)<|.fin ?_
 have H:=H.out
 refine ng (bX.shut (p:=p0_) (m:=(⟨a0.fl.set tc.1.toNat a1,a0.gU⟩:bX)) (ga.1,ga.2.1,ga.2.2) hac (pm 4 [0,1,2,3])) fun _ _=>?_
 refine ns 2 [1,0] 0 ?_
 exact jn (true,!tn,true,(⟨a0.fl.set tc.1.toNat a1,a0.gU⟩:bX)) H
theorem jF.c (h:jF.f a0=some r):Pt prog 44 [vS a0] (vS r):=by
 refine pf func44 h fun R0 F H=>?_
 refine so<|wr 3 0<|go 1<|gr H fun ga H=>oh Q Q Q (iH ga)<|gq 1 ?_
 cases H.out; exact ek 0
theorem di.c (h:di.f k a0 a1=some r):Pt prog 45 [agg (lH.enc a0),agg (ak.enc a1)] (lu [agg (lH.enc r.1),vB r.2.1,vI r.2.2]):=by
 refine pf func45 h fun R0 F H=>?_
 refine wr 5 7<|Dv.box Q T Q cA nofun fun ba=>Dv.box Q T Q cA nofun fun bc=>al Q T Lv nofun fun bd=>go 2<|wr 3 0<|gl 1 [1]<|el H fun ta haa H=>cl Q (cL 103) Q (mv.c haa)<|go 1<|WP.seq<|wr 7 0<|kU 4 [1] ?_
 cases cc:(a1.aI != 3)
 rotate_left
 ·
  have H:=H.ct cc
  refine go 3<|WP.cond Q (fun _=>?_) nofun
  refine wr 4 2<|gl 1 [2]<|sy 0 ?_
  refine gq 2 ?_
  cases H.out; exact r3 i2 Q (.cons (au Q U40 Q c40 (aa 0 Q) Q) (.cons (aB Q) (.cons (aB Q) .nil)))
 have H:=H.cf cc
 refine go 3<|ce H ?_ ?_ <;> intro H
 ·
  refine wr 4 2<|gl 1 [2]<|sy 0 ?_
  refine gq 2 ?_
  cases H.out; exact r3 i2 Q (.cons (au Q U40 Q c40 (aa 0 Q) Q) (.cons (aB Q) (.cons (aB Q) .nil)))
 refine WP.skip<|wr 1 1<|al Q T Lv nofun fun be=>.fin<|so<|WP.yL H (fun qh:(Bool×Int×Bool×(List ak)×(List Int))×OV×OV=>qh.1) (fun qh=>[(3,ey bc),(4,ey bd),(8,ey be),(9,vB qh.1.1)]) (fun qh=>[aE be 40 [eq qh.2.1.1,eq qh.2.2.1],aE bd 40 [dJ,dJ],aE bc 52 (ak.enc a1),aE ba 40 (lH.enc a0),own ak.K qh.2.1.1 qh.1.2.2.2.1,own (bq .i64) qh.2.2.1 qh.1.2.2.2.2]++F) (fun qh H=>?_) (fun H=>?_)
 ·
  obtain ⟨pa,va,vb⟩:=qh
  refine WP.seq<|so<|cf H ?_ ?_ <;> intro H
  ·
   refine WP.skip<|wr 4 2<|gl 1 [0]<|sy 1 ?_
   refine go 2<|fz 4 [4,5,6] [1,1] ?_
   refine fz 4 [4,5,6] [1,1] ?_
   cases H.out; exact r4 i2 Q (.cons (au Q U40 Q c40 (aa 1 Q) Q) (.cons (aB Q) (.cons (aB Q) .nil)))
  refine wr 7 80<|gl 3 [0,2]<|Dv.lit ak.K ([a1]:List ak) (css:=[ak.enc a1]) Q T eX gJ iy wm Q dc dc Q ⟨(aR (ak.K.one _)),T⟩ Q Q Q<|gr H fun ga H=>ap ak.K 4 ([a1]:List ak) bD eX (.inr ⟨_,eX⟩) nO ga nofun fun vd=>?_
  refine go 1<|sx 0 Q T Q Q (cells_one bG) r8 Q Q Q nofun ?_
  refine .fin<|rg 6 40<|gl 2 [0]<|Dv.lit (bq .i64) ([(-1)]:List Int) (css:=[[vI (-1)]]) Q T oU U3 c3 z3 Q dc dc Q ⟨(cells_one (ah Q)),T⟩ Q Q Q<|gr H fun gb H=>ap (bq .i64) 5 ([(-1)]:List Int) bD oU (.inr ⟨_,oU⟩) H5 gb nofun fun ve=>?_
  refine go 1<|sx 0 Q T Q Q (cells_one bG) LC Q Q Q nofun ?_
  refine .fin<|wr 4 2<|gl 1 [0]<|sy 1 ?_
  refine go 2<|fz 4 [4,5,6] [1,1] ?_
  refine fz 4 [4,5,6] [1,1] ?_
  cases H.out; exact r4 i2 Q (.cons (au Q U40 Q c40 (aa 1 Q) Q) (.cons (aB Q) (.cons (aB Q) .nil)))
 refine so<|WP.block<|wg (dy ak.K none) fun _ _=>?_
 refine wg (dy (bq .i64) none) fun _ _=>?_
 refine ws 6 [2,3,4,5,1,0] 0 ?_
 refine lq (fun j_ (pc:Bool×Int×(List ak)×(List Int)×OV×OV)=>di.l0 k a0 a1 j_ pc.1 pc.2.1 pc.2.2.1 pc.2.2.2.1) (false,0,([]:List ak),([]:List Int),jR,C9) H [2,3,4,8] (fun pc=>[(9,vB pc.1),(10,vI pc.2.1)]) (fun pc=>[(0,aE be 40 [eq pc.2.2.2.2.1.1,eq pc.2.2.2.2.2.1]),(4,own ak.K pc.2.2.2.2.1.1 pc.2.2.1),(5,own (bq .i64) pc.2.2.2.2.2.1 pc.2.2.2.1)]) ?_
 rintro j_ ⟨xc,xd,xe,xf,vh,vi⟩ H
 rcases j_ with _ | ja
 ·
  exact (aS.no H).elim
 try dsimp only at H
 rw [di.l0] at H
 refine WP.seq<|wr 5 0<|gl 3 [3]<|Dv.fk Q T Q eX<|go 1<|cf H ?_ ?_ <;> intro H
 ·
  refine WP.exit ?_
  have H:=H.out
  exact jn ((xc,xd,decide (xd<(a0.fL.length:Int)),xe,xf),vh,vi) H
 refine WP.skip<|WP.seq<|WP.block<|wr 7 96<|gl 3 [3]<|gr H fun gi H=>Dv.fR Q T Q Q eX gJ iy gi.1 gi.2<|lr Q T Q uR Q<|al Q T wa nofun fun bg=>sy 0 ?_
 refine .fin<|WP.seq<|su [0,3]<|ce H ?_ ?_ <;> intro H
 ·
  refine WP.seq<|wr 4 0<|gl 2 [3,0]<|el H fun tc hac H=>cl Q (cL 104) Q (jz.c hac)<|go 1<|cf H ?_ ?_ <;> intro H
  ·
   refine WP.skip<|WP.exit<|rg 3 0<|go 3<|ns 7 [0,1,2,3,4,5,6] 1 ?_
   exact bk ja (xc,av (xd+1),xe,xf,vh,vi) H
  refine wr 4 2<|gl 1 [4]<|sy 2 ?_
  refine gq 2 ?_
  have H:=H.fg
  cases H.out; exact rt i2 Q () 7 [0,1,2,3,4,5,6] 7 (.cons (au Q U40 Q c40 (aa 2 Q) Q) (.cons (aB Q) (.cons (aB Q) .nil)))
 refine WP.skip<|WP.jh H (fun qi:(Bool×Bool×(List ak)×(List Int))×OV×OV=>qi.1) (fun qi=>[(2,ey ba),(3,ey bc),(4,ey bd),(8,ey be),(9,vB qi.1.1),(10,vI xd),(11,ey bg)]) (fun qi=>[aE bg 52 (ak.enc (ak.K.at a0.fL xd)),aE be 40 [eq qi.2.1.1,eq qi.2.2.1],aE bd 40 [dJ,dJ],aE bc 52 (ak.enc a1),aE ba 40 (lH.enc a0),own ak.K qi.2.1.1 qi.1.2.2.1,own (bq .i64) qi.2.2.1 qi.1.2.2.2]++F) (fun qi H=>?_) (fun H=>?_)
 ·
  obtain ⟨pe,vj,vk⟩:=qi
  refine wr 7 80<|gl 3 [1,0]<|Dv.lit ak.K ([ak.K.at a0.fL xd]:List ak) (css:=[ak.enc (ak.K.at a0.fL xd)]) Q T eX gJ iy wm Q dc dc Q ⟨(aR (ak.K.one _)),T⟩ Q Q Q<|gr H fun gj H=>ap ak.K 5 ([ak.K.at a0.fL xd]:List ak) bD eX (.inr ⟨_,eX⟩) nO gj nofun fun vl=>?_
  refine go 1<|sx 1 Q T Q Q (cells_one bG) r8 Q Q Q nofun ?_
  refine .fin<|dg mX 11 1280<|gl 5 [1,4]<|gr H fun gk H=>Dv.fR Q T Q Q oU U3 c3 gk.1 gk.2<|jw Q T Q wu Q<|Dv.lit (bq .i64) ([(bq .i64).at a0.db xd]:List Int) (css:=[[vI ((bq .i64).at a0.db xd)]]) Q T oU U3 c3 z3 Q dc dc Q ⟨(cells_one (ah Q)),T⟩ Q Q Q<|gr H fun gm H=>ap (bq .i64) 6 ([(bq .i64).at a0.db xd]:List Int) bD oU (.inr ⟨_,oU⟩) H5 gm pB fun vm=>?_
  refine go 1<|sx 1 Q T Q Q (cells_one bG) LC Q Q Q pB ?_
  refine .fin<|rg 3 0<|go 3<|ns 7 [0,1,2,3,4,5,6] 1 ?_
  exact bk ja (pe.1,av (xd+1),pe.2.2.1++([ak.K.at a0.fL xd]:List ak),pe.2.2.2++([(bq .i64).at a0.db xd]:List Int),vl,vm) H
 refine wr 9 0<|gp 3 ?_
 cases cg:!xc
 ·
  have H:=H.cf cg
  refine go 6<|WP.cond Q nofun (fun _=>?_)
  refine WP.skip ?_
  have H:=H.out
  exact jn ((xc,false,xe,xf),vh,vi) H
 have H:=H.ct cg
 refine gl 6 [3,0]<|cf H ?_ ?_ <;> intro H
 ·
  refine WP.skip ?_
  have H:=H.out
  exact jn ((xc,dK a1.aj ((ak.K.at a0.fL xd).aj),xe,xf),vh,vi) H
 refine wr 7 80<|gl 3 [1,3]<|Dv.lit ak.K ([a1]:List ak) (css:=[ak.enc a1]) Q T eX gJ iy wm Q dc dc Q ⟨(aR (ak.K.one _)),T⟩ Q Q Q<|gr H fun gn H=>ap ak.K 5 ([a1]:List ak) bD eX (.inr ⟨_,eX⟩) nO gn nofun fun vn=>?_
 refine go 1<|sx 1 Q T Q Q (cells_one bG) r8 Q Q Q nofun ?_
 refine .fin<|wr 6 40<|gl 2 [1]<|Dv.lit (bq .i64) ([(-1)]:List Int) (css:=[[vI (-1)]]) Q T oU U3 c3 z3 Q dc dc Q ⟨(cells_one (ah Q)),T⟩ Q Q Q<|gr H fun gu H=>ap (bq .i64) 6 ([(-1)]:List Int) bD oU (.inr ⟨_,oU⟩) H5 gu nofun fun vo=>?_
 refine go 1<|sx 1 Q T Q Q (cells_one bG) LC Q Q Q nofun ?_
 refine .fin<|rg 1 0<|gq 1 ?_
 have H:=H.out
 exact jn ((true,dK a1.aj ((ak.K.at a0.fL xd).aj),xe++([a1]:List ak),xf++([(-1)]:List Int)),vn,vo) H
theorem ax.c (h:ax.f k a0 a1 a2=some r):Pt prog 175 [sl ak.K a0,vS a1,pL a2] (lu [vI r.1,vB r.2]):=by
 refine pf func175 h fun R0 F H=>?_
 refine so<|wr 3 0<|go 1<|Dv.fk Q T Q eX<|go 1<|so<|sq H id [0,1,2,8] (fun pa=>[(9,vI pa.1)]) (fun _=>[]) (fun pa H=>?_) (fun H=>?_)
 ·
  refine wr 16 0<|gp 5 ?_
  cases cc:decide (pa.1<(a0.length:Int))
  ·
   have H:=H.cf cc
   refine gq 11 ?_
   cases H.out; exact ek 0
  have H:=H.ct cc
  refine go 3<|gr H fun ga H=>Dv.fR Q (gg Q) Q Q eX gJ iy ga.1 ga.2<|lr Q (gg Q) Q uR Q<|go 1<|el H fun ta haa H=>Dv.tH (ret:=vI ta) Q (gg Q) Q Q ⟨_,_,_,haa,Q,Q⟩<|gq 4 ?_
  cases H.out; exact ek 0
 refine WP.block<|ws 0 [] 0 ?_
 refine lq (fun j_ (pc:Int×Int)=>ax.l0 k a0 a1 a2 j_ pc.1 pc.2) (0,(a0.length:Int)) H [0,1,2,8] (fun pc=>[(9,vI pc.1),(10,vI pc.2)]) (fun _=>[]) ?_
 rintro j_ ⟨xc,xd⟩ H
 rcases j_ with _ | ja
 ·
  exact (aS.no H).elim
 try dsimp only at H
 rw [ax.l0] at H
 refine WP.seq<|so<|cf H ?_ ?_ <;> intro H
 ·
  refine WP.exit ?_
  have H:=H.out
  exact jn (xc,xd,decide (xc<xd)) H
 refine WP.skip<|WP.block<|wr 7 0<|go 3<|Dv.II Q T Q U3 HA<|oh Q Q Q (Cq dc)<|Dv.II Q T Q HA U3<|go 1<|wr 8 0<|go 3<|gr H fun gb H=>Dv.fR Q T Q Q eX gJ iy gb.1 gb.2<|lr Q T Q uR Q<|go 1<|el H fun tc hac H=>Dv.tH (ret:=vI tc) Q T Q Q ⟨_,_,_,hac,Q,Q⟩<|go 1<|cf H ?_ ?_ <;> intro H
 ·
  exact rg 2 0<|go 2<|bk ja (xc,av ((IntKind.u64.wrap (av (xc+xd))).fdiv 2)) H
 exact rg 3 0<|go 3<|bk ja (av ((av ((IntKind.u64.wrap (av (xc+xd))).fdiv 2))+1),xd) H
theorem dG.c (h:dG.f a0 a1=some r):Pt prog 176 [agg (ak.enc a0),vS a1] (vI r):=by
 refine pf func176 h fun R0 F H=>?_
 refine wr 2 1<|Dv.box Q T Q cA nofun fun ba=>go 1<|wr 5 0<|gl 3 [0]<|el H fun ta haa H=>cl Q (cL 65) Q (aD.c haa)<|gq 1 ?_
 cases H.out; exact ek 1
theorem dD.c {v0_0 v0_1:OV} {b0_:Nat} (h:dD.f k a0 a1=some r):Tr prog 112 [ey b0_,vS a1] [aE b0_ 192 [eq v0_0.1,eq v0_1.1],own ak.K v0_0.1 a0.fl] (γ:=Unit) (fun _=>True) (fun g=>lu [vI r.1,vB r.2]) (fun g=>[aE b0_ 192 [eq v0_0.1,eq v0_1.1],own ak.K v0_0.1 a0.fl]):=by
 refine tf func112 h fun R0 F H=>?_
 refine so<|wr 10 0<|gl 5 [0]<|el H fun ta haa H=>pJ (B:=[own ak.K v0_0.1 a0.fl]) 2 [1,0] (cL 175) (Pt.wT _ (Pt.kn (ax.c haa) (.cons bV (.cons bV (.cons (xC (cL 176) (by rintro _ _ ⟨a0_,a1_,r_,h_,rfl,rfl⟩; exact dG.c h_)) .nil)))) (.cons (pq (aa 0 Q)) (.cons q7 (.cons q7 .nil))) (zR (nF lM (nF lM sK)))) ?_
 refine eF Q T Q Q<|eF Q T Q Q<|gq 2 ?_
 cases H.out; exact et () 2 [0,1] 0
theorem dY.c (h:dY.f a0 a1=some r):Pt prog 125 [agg (ak.enc a0),vI a1] (vI r):=by
 refine pf func125 h fun R0 F H=>?_
 refine wr 2 1<|Dv.box Q T Q cA nofun fun ba=>go 1<|WP.seq<|su [0]<|WP.block<|WP.seq<|WP.block<|WP.seq<|WP.block<|WP.seq<|WP.seq<|so<|cf H ?_ ?_ <;> intro H
 ·
  refine WP.skip<|so<|cf H ?_ ?_ <;> intro H
  ·
   refine WP.skip<|WP.exit<|sp ?_
   cases H.out; exact ek 1
  refine WP.exit<|WP.seq<|su [0]<|ce H ?_ ?_ <;> intro H
  ·
   refine sp ?_
   cases H.out; exact ek 1
  refine WP.skip<|WP.exit<|sp ?_
  cases H.out; exact ek 1
 refine WP.exit<|su [0]<|ce H ?_ ?_ <;> intro H
 ·
  refine sp ?_
  cases H.out; exact ek 1
 refine WP.skip<|WP.seq<|su [0]<|ce H ?_ ?_ <;> intro H
 ·
  refine sp ?_
  cases H.out; exact ek 1
 refine WP.skip<|WP.exit<|sp ?_
 cases H.out; exact ek 1
theorem bI.c (h:bI.f k a0 a1=some r):Pt prog 113 [agg (ak.enc a0),vI a1] (lu [vI r.1,vB r.2]):=by
 refine pf func113 h fun R0 F H=>?_
 refine wr 3 1<|Dv.box Q T Q cA nofun fun ba=>go 2<|sr H id [] (fun _=>[]) (fun _=>[]) (fun pa H=>?_) (fun H=>?_)
 ·
  refine sp ?_
  cases H.out; exact ek 1
 refine wr 2 0<|Dv.blda (qs:=[vI 30,vI 90]) (css:=[[vI 30],[vI 90]]) Q T U303 U3 c3 z303 Q ⟨(cells_one (ah Q)),⟨(cells_one (ah Q)),T⟩⟩ Q Q<|go 1<|WP.block<|ws 1 [0] 0 ?_
 refine lq (fun j_ (pc:Int)=>bI.l0 k a0 a1 j_ pc) 0 H [1,2,9] (fun pc=>[(10,vI pc)]) (fun _=>[]) ?_
 rintro j_ xc H
 rcases j_ with _ | ja
 ·
  exact (aS.no H).elim
 try dsimp only at H
 rw [bI.l0] at H
 refine so<|WP.seq<|cf H ?_ ?_ <;> intro H
 ·
  refine WP.exit ?_
  have H:=H.out
  exact jn (xc,decide (xc<2)) H
 refine WP.skip<|WP.seq<|WP.block<|wr 2 0<|gr H fun ga H=>Dv.ixa (Kd:=(bq .i64)) (xs:=([30,90]:List Int)) Q T Q Q Q U303 U3 Q c3 Q Q ga.1 ga.2 Q<|go 1<|su [0]<|wd mX 13 0<|gp 4 ?_
 cases cc:decide (a1<(av (a0.aU+((bq .i64).at ([30,90]:List Int) xc))))
 ·
  have H:=H.cf cc
  refine go 9<|WP.cond Q nofun (fun _=>?_)
  exact WP.skip<|rg 2 0<|go 2<|bk ja (av (xc+1)) H
 have H:=H.ct cc
 refine gl 3 [0]<|el H fun ta haa H=>Dv.call Q (gg Q) (cL 125) Q (dY.c haa)<|gl 2 [0]<|el H fun tc hac H=>Dv.call Q (gg Q) (cL 125) Q (dY.c hac)<|go 2<|cf H ?_ ?_ <;> intro H
 ·
  exact WP.skip<|rg 2 0<|go 2<|bk ja (av (xc+1)) H
 refine sp ?_
 have H:=H.fg
 cases H.out; exact ek 1
theorem eN.c {p0_:OV} (h:eN.f k a0 a1=some r):Tr prog 46 [eq p0_.1,agg (ak.enc a1)] [cD.O p0_ a0] (γ:=Unit) (fun _=>True) (fun g=>lu [vB r.1,vI r.2.1]) (fun g=>[cD.O p0_ r.2.2]):=by
 refine tf func46 h fun R0 F H=>?_
 refine wr 3 1<|Dv.box Q T Q cA nofun fun ba=>go 2<|WP.seq<|wr 8 0<|kU 4 [0] ?_
 cases cc:(a1.aI != 3)
 rotate_left
 ·
  have H:=H.ct cc
  refine go 4<|WP.cond Q (fun _=>?_) nofun
  refine sp ?_
  cases H.out; exact et () 2 [0,1] 1
 have H:=H.cf cc
 refine gl 1 [0]<|el H fun ta haa H=>Dv.call Q (gg Q) (cL 105) Q (mw.c haa)<|go 2<|ce H ?_ ?_ <;> intro H
 ·
  refine sp ?_
  cases H.out; exact et () 2 [0,1] 1
 refine WP.skip<|wr 9 0<|gl 3 [0]<|vg (cD.jf 1 Q) fun ga hac=>?_
 refine el H fun tc had H=>pJ 4 [0,1,2,3] (cL 112) (Tr.kn (dD.c had (b0_:=ga.1) (v0_0:=ga.2.1) (v0_1:=ga.2.2)) (.cons (iX hac) (.cons bV .nil))) ?_
 refine go 1<|eF Q T Q Q<|eF Q T Q Q<|go 2<|WP.yL H id (fun pa=>[(0,eq p0_.1),(3,ey ba)]) (fun pa=>[aE ba 52 (ak.enc a1),cD.O p0_ pa.2.2.2]++F) (fun pa H=>?_) (fun H=>?_)
 ·
  refine WP.seq<|wg (cD.jf 1 Q) fun gb hae=>?_
  refine dg mX 7 64<|go 1<|Dv.bU hae Q T Q<|fp hae Q T Q CF<|gl 3 [0,3]<|el H fun te haf H=>cx 4 [2,0,1,3] (cL 109) (dt.c haf (p0_:=gb.2.2)) pC fun _ _=>?_
  refine .fin<|WP.seq<|wr 7 0<|gl 1 [3]<|el H fun tg hag H=>cl Q (cL 113) Q (bI.c hag)<|go 1<|eF Q T Q Q<|eF Q T Q Q<|go 2<|so<|cf H ?_ ?_ <;> intro H
  ·
   refine WP.skip<|so<|wg (cD.shut (p:=p0_) (m:=(⟨pa.2.2.2.fl,te.2⟩:cD)) (gb.1,gb.2.1,gb.2.2) hae (pm 4 [1,2,0,3])) fun _ _=>?_
   cases H.out; exact et () 2 [1,0] 1
  refine dg mX 8 128<|go 1<|Dv.bU hae Q T Q<|fp hae Q T Q CF<|gl 4 [1,3]<|el H fun tj hah H=>cx 4 [0,1,2,3] (cL 110) (eW.c hah (p0_:=gb.2.2)) pC fun _ _=>?_
  refine .fin<|so<|wg (cD.shut (p:=p0_) (m:=(⟨pa.2.2.2.fl,tj⟩:cD)) (gb.1,gb.2.1,gb.2.2) hae (pm 4 [1,2,0,3])) fun _ _=>?_
  cases H.out; exact et () 2 [1,0] 1
 refine WP.block<|wd mX 14 0<|gp 2 ?_
 cases cg:tc.2
 ·
  have H:=H.cf cg
  refine go 12<|WP.cond Q nofun (fun _=>?_)
  refine so<|WP.cond Q nofun (fun _=>?_)
  refine dg mX 12 2304<|go 2<|Dv.bU hac Q T Q<|fp hac Q T Q ud<|gl 3 [0,3]<|Dv.lit ak.K ([a1]:List ak) (css:=[ak.enc a1]) Q T eX gJ iy wm Q dc dc Q ⟨(aR (ak.K.one _)),T⟩ Q Q Q<|el H fun tm hai H=>Dv.uK (pre:=[own ak.K ga.2.1.1 a0.fl]) (F:=[aE ga.1 192 [eq ga.2.1.1,eq ga.2.2.1],aP.O ga.2.2 a0.fh,aE ba 52 (ak.enc a1)]++F) (fun gi:OV=>[own ak.K gi.1 tm,aE ga.1 192 [eq ga.2.1.1,eq ga.2.2.1],aP.O ga.2.2 a0.fh,aE ba 52 (ak.enc a1)]++F) Q T (cL 108) Q (da.c hai (p0_:=ga.2.1)) (ly (L:=[aE ga.1 192 [eq ga.2.1.1,eq ga.2.2.1],own ak.K ga.2.1.1 a0.fl,aP.O ga.2.2 a0.fh,aE ba 52 (ak.enc a1)]) (F:=F) [1,0,2,3] Q Q Q) Q pE (fun gi _=>?_)
  refine Dv.bU hac Q T Q<|fp hac Q T Q ud<|sx 1 Q T Q Q (cells_one bG) r8 Q Q Q pB ?_
  refine .fin ?_
  have H:=H.out
  refine ng (cD.shut (p:=p0_) (m:=(⟨tm,a0.fh⟩:cD)) (ga.1,gi,ga.2.2) hac (pm 4 [1,0,2,3])) fun _ _=>?_
  refine ns 2 [1,0] 0 ?_
  exact jn (false,false,false,(⟨tm,a0.fh⟩:cD)) H
 have H:=H.ct cg
 refine gl 2 [3]<|Dv.bU hac Q (gg Q) Q<|fp hac Q (gg Q) Q ud<|gl 2 [0]<|gr H fun gj H=>?_
 have haj:tc.1.toNat<a0.fl.length:=bp gj
 refine Dv.jX Q (gg Q) Q (aa 1 Q) Q eX gJ iy gj.1 gj.2<|Dv.pM (j:=tc.1.toNat) (f:=0) Q (gg Q) Q (aa 1 Q) haj gJ Q iy (Nat.le_of_ble_eq_true Q)<|el H fun tn hak H=>Dv.call Q (gg Q) (cL 107) Q (j4.c hak)<|go 3<|ce H ?_ ?_ <;> intro H
 ·
  refine so<|wg (cD.shut (p:=p0_) (m:=a0) (ga.1,ga.2.1,ga.2.2) hac (pm 4 [0,1,2,3])) fun _ _=>?_
  have H:=H.fg
  cases H.out; exact et () 2 [1,0] 1
 refine so<|WP.cond Q (fun _=>?_) nofun
 refine dg mX 8 128<|go 1<|Dv.bU hac Q T Q<|fp hac Q T Q ud<|gl 3 [0,3]<|gr H fun gk H=>?_
 have ham:tc.1.toNat<a0.fl.length:=bp gk
 refine Dv.jX Q T Q (aa 1 Q) Q eX gJ iy gk.1 gk.2<|Dv.IK (j:=tc.1.toNat) (f:=0) (jj:=1) a1 Q T Q Q (aR (ak.K.one _)) gJ iy Q Q ham (Nat.le_of_ble_eq_true Q) Q (fun _=>fO kr)<|.fin ?_
 have H:=H.out
 refine ng (cD.shut (p:=p0_) (m:=(⟨a0.fl.set tc.1.toNat a1,a0.fh⟩:cD)) (ga.1,ga.2.1,ga.2.2) hac (pm 4 [0,1,2,3])) fun _ _=>?_
 refine ns 2 [1,0] 0 ?_
 exact jn (true,!tn,true,(⟨a0.fl.set tc.1.toNat a1,a0.fh⟩:cD)) H
theorem jN.c (h:jN.f a0=some r):Pt prog 47 [vS a0] (vS r):=by
 refine pf func47 h fun R0 F H=>?_
 refine so<|wr 3 0<|go 1<|gr H fun ga H=>oh Q Q Q (iH ga)<|gq 1 ?_
 cases H.out; exact ek 0
theorem od.c {b off:Nat} {bT:TypeId} {qs:Cs} {n:Int} (h0:qs[off]? = some (vI n)):Tr prog 178 [eq (.pointer (some ⟨b,off,none⟩))] [aE b bT qs] (γ:=Unit) (fun _=>True) (fun _=>vI n) (fun _=>[aE b bT qs]):=by
 exact Tr.body func178 (c:=_) Q ntmps178 (Nat.le_of_ble_eq_true Q) fun R0 F=>WP.seq<|WP.q8 [(0,false)] kr<|go 1<|WP.seq<|WP.q8 [(0,false),(1,false),(2,false),(3,false),(4,false)] kr<|go 3<|Dv.cextr (A:=aE b bT qs) Q T Q (I2 h0 func237 kr Q xf237 xg237) (aa 0 Q)<|go 1<|rt i2 Q () 1 [0] 0 (.cons (aB Q) .nil)
theorem kh.c {b off:Nat} {bT:TypeId} {qs:Cs} {n m:Int} (h0:qs[off]? = some (vI n)):Tr prog 236 [eq (.pointer (some ⟨b,off,none⟩)),vI n,vI m] [aE b bT qs] (γ:=Unit) (fun _=>True) (fun _=>vB true) (fun _=>[aE b bT (qs.set off (vI m))]):=by
 exact Tr.body func236 (c:=_) Q ntmps236 (Nat.le_of_ble_eq_true Q) fun R0 F=>WP.seq<|WP.q8 [(0,false)] kr<|go 1<|WP.seq<|WP.q8 [(0,false),(1,false),(2,false),(3,false),(4,false),(5,true),(6,false)] kr<|go 5<|Dv.JR (jj:=0) (qs:=qs) Q T Q (KC h0 func265 kr Q xf265 xg265) Q nofun<|go 1<|rt i2 Q () 1 [0] 0 (.cons (aB Q) .nil)
theorem clock_Counter_Add.c {p0_:OV} (h:clock_Counter_Add.f k a0 a1=some r):Tr prog 177 [eq p0_.1,vI a1] [lz.O p0_ a0] (γ:=Unit) (fun _=>True) (fun g=>lu [vI r.1,vI r.2.1]) (fun g=>[lz.O p0_ r.2.2]):=by
 refine tf func177 h fun R0 F H=>?_
 refine so<|WP.seq<|so<|ce H ?_ ?_ <;> intro H
 ·
  refine sp ?_
  cases H.out; exact et () 1 [0] 0
 refine WP.skip<|WP.block<|ws 1 [0] 0 ?_
 refine lq (fun j_ (pa:Unit)=>clock_Counter_Add.l0 k a0 a1 j_) () H [0,1] (fun _=>[]) (fun _=>[]) ?_
 rintro j_ ⟨⟩ H
 rcases j_ with _ | ja
 ·
  exact (aS.no H).elim
 try dsimp only at H
 rw [clock_Counter_Add.l0] at H
 refine WP.block<|wr 5 0<|go 1<|Dv.qx lz.nn Q T Q (aa 0 Q)<|vg (lz.jf 0 Q) fun ga haa=>?_
 refine fp haa Q T Q yJ<|pJ 1 [0] (cL 178) (od.c (b:=ga) (off:=0) (bT:=257) (qs:=[vI a0.fn.fv,vI a0.eb]) (n:=a0.fn.fv) Q) ?_
 refine go 1<|WP.seq<|wr 10 0<|gp 3 ?_
 cases cc:decide (0<a1)
 ·
  have H:=H.cf cc
  refine go 7<|WP.cond Q nofun (fun _=>?_)
  refine WP.skip<|wr 5 0<|go 1<|Dv.bU haa Q T Q<|fp haa Q T Q rZ<|gl 2 [0]<|WP.jh H id (fun pc=>[(0,eq p0_.1),(1,vI a1),(6,vI a0.fn.fv),(7,vI pc)]) (fun pc=>[lz.O p0_ a0]++F) (fun pc H=>?_) (fun H=>?_)
  rotate_left
  ·
   refine wr 8 0<|go 2<|Dv.bU haa Q T Q<|fp haa Q T Q rZ<|gl 4 [0]<|cf H ?_ ?_ <;> intro H
   ·
    refine WP.skip ?_
    have H:=H.out
    refine ng (lz.shut (p:=p0_) (m:=a0) ga haa (pm 1 [0])) fun _ _=>?_
    exact jn a0.eb H
   refine rg 4 0<|gq 4 ?_
   have H:=H.out
   refine ng (lz.shut (p:=p0_) (m:=a0) ga haa (pm 1 [0])) fun _ _=>?_
   exact jn (av (a0.fn.fv+a1)) H
  refine wr 10 256<|gp 3 ?_
  cases cg:(a1==0)
  rotate_left
  ·
   have H:=H.ct cg
   refine go 5<|Dv.CY Q ⟨_,_,Q,Q,.inl Q⟩ nofun<|go 1<|WP.cond Q (fun _=>?_) nofun
   refine sp ?_
   cases H.out; exact et () 1 [0] 0
  have H:=H.cf cg
  refine go 1<|Dv.qx lz.nn Q (gg Q) Q (aa 0 Q)<|vg (lz.jf 0 Q) fun gb hac=>?_
  refine fp hac Q (gg Q) Q yJ<|go 2<|cx 1 [0] (cL 236) (kh.c (b:=gb) (off:=0) (bT:=257) (qs:=[vI a0.fn.fv,vI a0.eb]) (n:=a0.fn.fv) (m:=pc) Q) nofun fun _ _=>?_
  refine go 1<|WP.cond Q (fun _=>?_) nofun
  refine so<|wg (lz.shut (p:=p0_) (m:=(⟨(⟨pc⟩:Bx),a0.eb⟩:lz)) gb hac (pm 1 [0])) fun _ _=>?_
  cases H.out; exact et () 1 [0] 0
 have H:=H.ct cc
 refine go 2<|Dv.bU haa Q (gg Q) Q<|fp haa Q (gg Q) Q rZ<|gl 3 [0]<|ce H ?_ ?_ <;> intro H
 ·
  refine so<|wg (lz.shut (p:=p0_) (m:=a0) ga haa (pm 1 [0])) fun _ _=>?_
  cases H.out; exact et () 1 [0] 0
 refine WP.skip<|wr 5 0<|go 1<|Dv.bU haa Q T Q<|fp haa Q T Q rZ<|gl 2 [0]<|WP.jh H id (fun pe=>[(0,eq p0_.1),(1,vI a1),(6,vI a0.fn.fv),(7,vI pe)]) (fun pe=>[lz.O p0_ a0]++F) (fun pe H=>?_) (fun H=>?_)
 rotate_left
 ·
  refine wr 8 0<|go 2<|Dv.bU haa Q T Q<|fp haa Q T Q rZ<|gl 4 [0]<|cf H ?_ ?_ <;> intro H
  ·
   refine WP.skip ?_
   have H:=H.out
   refine ng (lz.shut (p:=p0_) (m:=a0) ga haa (pm 1 [0])) fun _ _=>?_
   exact jn a0.eb H
  refine rg 4 0<|gq 4 ?_
  have H:=H.out
  refine ng (lz.shut (p:=p0_) (m:=a0) ga haa (pm 1 [0])) fun _ _=>?_
  exact jn (av (a0.fn.fv+a1)) H
 refine wr 10 256<|gp 3 ?_
 cases ci:(a1==0)
 rotate_left
 ·
  have H:=H.ct ci
  refine go 5<|Dv.CY Q ⟨_,_,Q,Q,.inl Q⟩ nofun<|go 1<|WP.cond Q (fun _=>?_) nofun
  refine sp ?_
  cases H.out; exact et () 1 [0] 0
 have H:=H.cf ci
 refine go 1<|Dv.qx lz.nn Q (gg Q) Q (aa 0 Q)<|vg (lz.jf 0 Q) fun gi had=>?_
 refine fp had Q (gg Q) Q yJ<|go 2<|cx 1 [0] (cL 236) (kh.c (b:=gi) (off:=0) (bT:=257) (qs:=[vI a0.fn.fv,vI a0.eb]) (n:=a0.fn.fv) (m:=pe) Q) nofun fun _ _=>?_
 refine go 1<|WP.cond Q (fun _=>?_) nofun
 refine so<|wg (lz.shut (p:=p0_) (m:=(⟨(⟨pe⟩:Bx),a0.eb⟩:lz)) gi had (pm 1 [0])) fun _ _=>?_
 cases H.out; exact et () 1 [0] 0
theorem fF.c {p0_:OV} (h:fF.f k a0=some r):Tr prog 114 [eq p0_.1] [lz.O p0_ a0] (γ:=Unit) (fun _=>True) (fun g=>lu [vI r.1,vI r.2.1]) (fun g=>[lz.O p0_ r.2.2]):=by
 refine tf func114 h fun R0 F H=>?_
 refine so<|wr 6 2<|go 1<|el H fun ta haa H=>cx 1 [0] (cL 177) (clock_Counter_Add.c haa (p0_:=p0_)) nofun fun _ _=>?_
 refine eF Q T Q Q<|eF Q T Q Q<|gq 2 ?_
 cases H.out; exact et () 1 [0] 0
theorem bC.c (h:bC.f k a0 a1=some r):Pt prog 115 [sl aw a0,vS a1] (vI r):=by
 refine pf func115 h fun R0 F H=>?_
 refine so<|sr H id [] (fun _=>[]) (fun _=>[]) (fun pa H=>?_) (fun H=>?_)
 ·
  refine sp ?_
  cases H.out; exact ek 0
 refine wr 3 0<|go 1<|Dv.fk Q T Q de<|go 1<|WP.block<|ws 0 [] 0 ?_
 refine lq (fun j_ (pc:Int)=>bC.l0 k a0 a1 j_ pc) 0 H [0,1,7] (fun pc=>[(8,vI pc)]) (fun _=>[]) ?_
 rintro j_ xc H
 rcases j_ with _ | ja
 ·
  exact (aS.no H).elim
 try dsimp only at H
 rw [bC.l0] at H
 refine so<|WP.seq<|cf H ?_ ?_ <;> intro H
 ·
  refine WP.exit ?_
  have H:=H.out
  exact jn (xc,decide (xc<(a0.length:Int))) H
 refine WP.skip<|WP.seq<|WP.block<|so<|wr 6 0<|go 3<|gr H fun ga H=>Dv.fR Q T Q Q de U9 c9 ga.1 ga.2<|jw Q T Q nu Q<|go 1<|cf H ?_ ?_ <;> intro H
 ·
  exact WP.skip<|rg 2 0<|go 2<|bk ja (av (xc+1)) H
 refine sp ?_
 have H:=H.fg
 cases H.out; exact ek 0
theorem dX.c {a1 a2:Int} {p0_:OV} (h:dX.f a0 a1 a2=some r):Tr prog 116 [eq p0_.1,vI a1,vI a2] [own aw p0_.1 a0] (γ:=OV) (fun _=>True) (fun g=>eq g.1) (fun g=>[own aw g.1 r]):=by
  unfold dX.f at h
  obtain ⟨⟨h1,h2,h3⟩,h5⟩:=(aS.of h).an
  obtain rfl:=aS.out h5
  clear h h5
  obtain ⟨i,rfl⟩:=Int.eq_ofNat_of_zero_le h1
  obtain ⟨j,rfl⟩:=Int.eq_ofNat_of_zero_le (show (0:Int)≤a2 by omega)
  have hij:i≤j:=om
  have hj:j≤a0.length:=om
  obtain ⟨v,hv⟩:=p0_
  rw [Int.toNat_natCast,Int.toNat_natCast]
  refine Tr.body func116 (c:=_) Q ntmps116 (Nat.le_of_ble_eq_true Q) fun R0 F=>?_
  refine so<|wr 6 0<|go 4<|Dv.ko (Kd:=aw) (xs:=a0) (v:=v) Q T Q (aa 0 Q) de<|Dv.sl3 (Kd:=aw) Q T Q (aa 0 Q) de U9 c9 (eT Q) (eT Q) (eT Q) hij hj<|.fin<|WP.seq<|so<|WP.cond Q (fun c0=>?_) (fun c0=>?_)
  · have e1:i=j:=by have:=beq_iff_eq.1 c0; omega
    subst e1
    rw [List.take_append_drop]
    refine sp ?_
    exact WP.BH (fun _ _ h=>h) Q (⟨v,hv⟩:OV) T (.cons (aB Q) .nil) Q (wc (L:=[own aw v a0]) (F:=F) [0] 0 Q Q Q)
  have hlt:i<j:=by
    have:¬ ((i:Int)=(j:Int)):=by simpa using c0
    omega
  have hzl:(a0.take i++a0.drop j++a0.drop (i+(a0.length-j))).length=a0.length:=by simp only [List.length_append,List.length_take,List.length_drop]; omega
  have hpl:(i+(a0.length-j))<(a0.take i++a0.drop j++a0.drop (i+(a0.length-j))).length:=by rw [hzl]; omega
  have hfin:((a0.take i++a0.drop j++a0.drop (i+(a0.length-j))).take (i+(a0.length-j))++List.replicate ((a0.take i++a0.drop j++a0.drop (i+(a0.length-j))).length-(i+(a0.length-j))) eE).take (i+(a0.length-j))=a0.take i++a0.drop j:=by
    have hl:(a0.take i++a0.drop j).length=(i+(a0.length-j)):=by rw [List.length_append,List.length_take,List.length_drop]; omega
    rw [List.take_append,List.take_take,Nat.min_self,List.take_left' hl]
    have:(i+(a0.length-j))-(a0.take i++a0.drop j).length=0:=om
    rw [this,List.take_zero,List.append_nil]
  refine WP.skip<|wr 3 0<|go 1<|Dv.ko (Kd:=aw) (xs:=a0) (v:=v) Q T Q (aa 0 Q) de<|go 1<|wd mX 8 64<|go 2<|Dv.slpf (Kd:=aw) Q T Q (aa 0 Q) de U9 c9 (eT Q) (Nat.le_trans hij hj)<|go 2<|Dv.slt (Kd:=aw) (p:=j) Q T Q (aa 0 Q) de U9 c9 (eT Q) hj<|Dv.apt (Kd:=aw) (jj:=0) Q T Q Q Q de de U9 c9 ⟨hlt,hj⟩ (fun _=>fO kr)<|gq 1 ?_
  refine wr 6 32<|go 2<|Dv.lenp (Kd:=aw) (xs:=(a0.take i++a0.drop j++a0.drop (i+(a0.length-j)))) Q T Q (aa 0 Q) de<|go 1<|Dv.slpt (Kd:=aw) (xs:=(a0.take i++a0.drop j++a0.drop (i+(a0.length-j)))) (p:=(i+(a0.length-j))) (q:=a0.length) Q T Q (aa 0 Q) de U9 c9 (eT Q) (eT Q) om (Nat.le_of_eq hzl.symm)<|Dv.clrt (Kd:=aw) (jj:=0) eE Q T ((show opv _ _=some (eq (tlv _ v a0.length (i+(a0.length-j)))) from Q).trans (congrArg (fun z=>some (eq (tlv _ v z (i+(a0.length-j))))) hzl.symm)) de z9 Q Q (fun u hu=>by simp [Value.cells] at hu; subst hu; rfl) hpl Q nofun<|.fin<|sp ?_
  refine WP.gh (l':=fun _:Unit=>[own aw (pfv v (i+(a0.length-j))) (a0.take i++a0.drop j)]++F) (jk (ok:=fun _=>True) (fun R w h=>by obtain ⟨_,_,h2⟩:=Gn (m:=(i+(a0.length-j))) 0 rfl (by rw [List.length_append,List.length_take,List.length_replicate]; omega) R w h; rw [hfin] at h2; exact ⟨(),T,h2⟩)) (fun _ _=>?_)
  exact WP.BH (fun _ _ h=>h) Q (⟨pfv v (i+(a0.length-j)),CW hv⟩:OV) T (.cons (aB Q) .nil) Q (wc (L:=[own aw (pfv v (i+(a0.length-j))) (a0.take i++a0.drop j)]) (F:=F) [0] 0 Q Q Q)
theorem iC.c {p0_:OV} (h:iC.f k a0 a1=some r):Tr prog 48 [eq p0_.1,vS a1] [cC.O p0_ a0] (γ:=Unit) (fun _=>True) (fun g=>lu [vI r.1,vI r.2.1]) (fun g=>[cC.O p0_ r.2.2]):=by
 refine tf func48 h fun R0 F H=>?_
 refine so<|wr 10 16<|go 1<|Dv.qx cC.nn Q T Q (aa 0 Q)<|vg (cC.jf 0 Q) fun ga haa=>?_
 refine fp haa Q T Q Dp<|gl 1 [0]<|el H fun ta hac H=>cx 4 [1,0,2,3] (cL 114) (fF.c hac (p0_:=ga.2.1)) nofun fun _ _=>?_
 refine go 1<|eF Q T Q Q<|eF Q T Q Q<|go 2<|WP.seq<|so<|ce H ?_ ?_ <;> intro H
 ·
  refine so<|wg (cC.shut (p:=p0_) (m:=(⟨ta.2.2,a0.eU,a0.ou⟩:cC)) (ga.1,ga.2.1,ga.2.2.1,ga.2.2.2) haa (pm 4 [1,0,2,3])) fun _ _=>?_
  cases H.out; exact et () 1 [0] 0
 refine WP.skip<|WP.jh H id (fun pa=>[(0,eq p0_.1),(1,vS a1),(6,vI ta.1)]) (fun pa=>[cC.O p0_ pa]++F) (fun pa H=>?_) (fun H=>?_)
 ·
  refine wr 11 1152<|go 2<|Dv.qx cC.nn Q T Q (aa 0 Q)<|vg (cC.jf 0 Q) fun gb had=>?_
  refine fp had Q T Q nf<|gl 2 [0]<|Dv.lit aw ([a1]:List BA) (css:=[[vS a1]]) Q T de U9 c9 z9 Q dc dc Q ⟨(cells_one (ah Q)),T⟩ Q Q Q<|gr H fun gi H=>ap aw 2 ([a1]:List BA) bD de (.inr ⟨_,de⟩) rA gi nofun fun va=>?_
  refine Dv.bU had Q T Q<|fp had Q T Q nf<|sx 0 Q T Q Q (cells_one bG) Is Q Q Q nofun ?_
  refine .fin<|wr 7 64<|go 1<|Dv.bU had Q T Q<|fp had Q T Q zE<|gl 3 [0]<|Dv.mup (jj:=3) ta.1 Q T Q Q Q Q tW (dV U9) nofun<|.fin<|so<|wg (cC.shut (p:=p0_) (m:=(⟨pa.iU,pa.eU++([a1]:List BA),mput pa.ou a1 ta.1⟩:cC)) (gb.1,gb.2.1,va,gb.2.2.2) had (pm 4 [0,1,2,3])) fun _ _=>?_
  cases H.out; exact et () 1 [0] 0
 refine wr 11 0<|go 1<|Dv.bU haa Q T Q<|fp haa Q T Q zE<|gl 2 [1]<|Dv.mlk 0 Q T Q (aa 3 Q) Q tW (dV U9) z3 (fun _=>Q)<|go 1<|eF Q T Q Q<|eF Q T Q Q<|go 2<|so<|cf H ?_ ?_ <;> intro H
 ·
  refine WP.skip ?_
  have H:=H.out
  refine ng (cC.shut (p:=p0_) (m:=(⟨ta.2.2,a0.eU,a0.ou⟩:cC)) (ga.1,ga.2.1,ga.2.2.1,ga.2.2.2) haa (pm 4 [1,0,2,3])) fun _ _=>?_
  exact jn (⟨ta.2.2,a0.eU,a0.ou⟩:cC) H
 refine wr 7 0<|go 1<|Dv.bU haa Q T Q<|fp haa Q T Q nf<|gl 2 [1]<|el H fun tc hae H=>pJ (B:=[own aw ga.2.2.1.1 a0.eU]) 4 [2,0,1,3] (cL 115) (Pt.wT _ (bC.c hae) (.cons (pq (aa 0 Q)) (.cons q7 .nil)) lM) ?_
 refine go 1<|rg 12 2304<|go 2<|Dv.bU haa Q T Q<|fp haa Q T Q nf<|gl 4 [1]<|el H fun te haf H=>cx 4 [2,0,1,3] (cL 116) (dX.c haf (p0_:=ga.2.2.1)) nofun fun gj _=>?_
 refine Dv.bU haa Q T Q<|fp haa Q T Q nf<|sx 2 Q T Q Q (cells_one bG) Is Q Q Q nofun ?_
 refine .fin ?_
 have H:=H.out
 refine ng (cC.shut (p:=p0_) (m:=(⟨ta.2.2,te,a0.ou⟩:cC)) (ga.1,ga.2.1,gj,ga.2.2.2) haa (pm 4 [2,1,0,3])) fun _ _=>?_
 exact jn (⟨ta.2.2,te,a0.ou⟩:cC) H
theorem iL.c (h:iL.f a0=some r):Pt prog 49 [agg (kb.enc a0)] (vS r):=by
 refine pf func49 h fun R0 F H=>?_
 refine wr 2 1<|Dv.box Q T Q cA nofun fun ba=>go 1<|WP.seq<|su [0]<|cf H ?_ ?_ <;> intro H
 ·
  refine WP.skip<|WP.seq<|su [0]<|ce H ?_ ?_ <;> intro H
  ·
   refine wr 4 0<|gl 2 [0]<|gr H fun ga H=>oh Q Q Q (iH ga)<|gq 1 ?_
   cases H.out; exact ek 1
  refine WP.skip<|wr 4 0<|gl 2 [0]<|gr H fun gb H=>oh Q Q Q (iH gb)<|gq 1 ?_
  cases H.out; exact ek 1
 refine so<|sq H id [1] (fun pa=>[(3,vS pa)]) (fun _=>[]) (fun pa H=>?_) (fun H=>?_)
 rotate_left
 ·
  refine su [0]<|cf H ?_ ?_ <;> intro H
  ·
   refine WP.skip ?_
   have H:=H.out
   exact jn (⟨#[32,48]⟩:BA) H
  refine rg 1 0<|gq 1 ?_
  have H:=H.out
  exact jn (⟨#[32,49]⟩:BA) H
 refine wr 17 0<|gl 3 [0]<|gr H fun gi H=>oh Q Q Q (iH gi)<|gr H fun gj H=>oh Q Q Q (iH gj)<|gl 3 [0]<|gr H fun gk H=>oh Q Q Q (iH gk)<|gr H fun gm H=>oh Q Q Q (iH gm)<|gl 3 [0]<|gr H fun gn H=>oh Q Q Q (iH gn)<|go 1<|gr H fun gu H=>oh Q Q Q (iH gu)<|gq 1 ?_
 cases H.out; exact ek 1
end Go.Proofs.YtfknmdelgepbjaaGreatDoor
