import Derived.Test.YtfknmdelgepbjaaGreatDoorZTab
import Derived.Test.YtfknmdelgepbjaaGreatDoorZWalks1
import Derived.Test.YtfknmdelgepbjaaGreatDoorConQ
import Derived.Test.YtfknmdelgepbjaaGreatDoorConA6
import Derived.Test.YtfknmdelgepbjaaGreatDoorConC4
import Derived.Lib.Join
import Derived.Eval
set_option linter.all false
set_option autoImplicit true
set_option maxRecDepth 10000
set_option maxHeartbeats 20000000
namespace Go.Proofs.YtfknmdelgepbjaaGreatDoor
open Go Go.Sp Tryz
theorem dA.c (h:dA.f k a0 a1=some r):Pt prog 218 [agg (aQ.enc a0),vS a1] (vI r):=by
 refine pf func218 h fun R0 F H=>?_
 refine wr 2 1<|Dv.box Q T Q cA nofun fun ba=>go 1<|wr 4 0<|gl 2 [0]<|el H fun ta haa H=>cl Q (cL 148) Q (eG.c haa)<|go 1<|WP.seq<|so<|ce H ?_ ?_ <;> intro H
 ·
  refine sp ?_
  cases H.out; exact ek 1
 refine WP.skip<|wr 4 4<|go 2<|gr H fun ga H=>?_
 obtain ⟨ti867,ti867a,ti867b,ti867c,ti867d⟩:=Ji
 refine Dv.G8 (Kd:=(bG .i64)) (0:Int) Q T Q Q ry ti867a ti867b ti867c ti867d Q dc Q ga nofun (fun va=>?_)
 refine go 1<|WP.lG H id (fun pa=>[(5,vI ta),(6,eq va.1)]) (fun pa=>[aJ ba 113 (aQ.enc a0),own (bG .i64) va.1 pa.2.2]++F) (fun pa H=>?_) (fun H=>?_)
 ·
  refine wr 5 0<|go 2<|gr H fun gb H=>?_
  have hac:ta.toNat<pa.2.2.length:=bC gb
  refine Dv.kQ Q T Q (ab 1 Q) Q ry W3 c3 gb.1 gb.2<|Dv.oZ (j:=ta.toNat) (f:=0) (p:=vI (pa.2.2.getD ta.toNat default)) Q T Q (ab 1 Q) hac W3 Q Q<|gq 1 ?_
  cases H.out; exact ek 2
 refine so<|WP.block<|ws 2 [1,0] 0 ?_
 refine lq (fun j_ (pc:Int×(List Int))=>dA.l0 k a0 ta j_ pc.1 pc.2) (0,List.replicate (av (ta+1)).toNat (0:Int)) H [2,5,6] (fun pc=>[(7,vI pc.1)]) (fun pc=>[(1,own (bG .i64) va.1 pc.2)]) ?_
 rintro j_ ⟨xc,xd⟩ H
 rcases j_ with _ | ja
 ·
  exact (aW.no H).elim
 try dsimp only at H
 rw [dA.l0] at H
 refine WP.seq<|so<|cf H ?_ ?_ <;> intro H
 ·
  refine WP.exit ?_
  have H:=H.out
  exact jn (xc,decide (xc≤ta),xd) H
 refine WP.skip<|WP.lG H id (fun pe=>[(2,eW ba),(5,vI ta),(6,eq va.1),(7,vI xc)]) (fun pe=>[aJ ba 113 (aQ.enc a0),own (bG .i64) va.1 pe.2.2]++F) (fun pe H=>?_) (fun H=>?_)
 ·
  exact rg 3 0<|go 3<|bk ja (av (xc+1),pe.2.2) H
 refine WP.block<|so<|WP.block<|ws 2 [0,1] 0 ?_
 refine lq (fun j_ (pg:Int×(List Int))=>dA.l1 k a0 xc j_ pg.1 pg.2) (0,xd) H [2,5,6,7] (fun pg=>[(8,vI pg.1)]) (fun pg=>[(1,own (bG .i64) va.1 pg.2)]) ?_
 rintro j_ ⟨xe,xf⟩ H
 rcases j_ with _ | jc
 ·
  exact (aW.no H).elim
 try dsimp only at H
 rw [dA.l1] at H
 refine WP.seq<|wr 9 0<|gl 4 [0]<|gr H fun gi H=>Dv.jA Q T Q Q rR mZ pG gi.1 gi.2<|fr Q T Q Ca Q<|mL Q T Q ID Q<|Dv.eX Q T Q eb<|go 1<|cf H ?_ ?_ <;> intro H
 ·
  refine WP.exit ?_
  have H:=H.out
  exact jn (xe,decide (xe<(((Event.K.at a0.fL xc).ag).length:Int)),xf) H
 refine WP.skip<|WP.seq<|WP.block<|dg mX 24 8388608<|go 4<|gr H fun gj H=>?_
 have had:xc.toNat<xf.length:=bC gj
 refine Dv.kQ Q T Q (ab 1 Q) Q ry W3 c3 gj.1 gj.2<|Dv.oZ (j:=xc.toNat) (f:=0) (p:=vI (xf.getD xc.toNat default)) Q T Q (ab 1 Q) had W3 Q Q<|gl 5 [0,0]<|gr H fun gk H=>Dv.jA Q T Q Q rR mZ pG gk.1 gk.2<|fr Q T Q Ca Q<|mL Q T Q ID Q<|go 1<|gr H fun gm H=>Dv.jA Q T Q Q eb W9 c9 gm.1 gm.2<|mL Q T Q qN Q<|el H fun tc hae H=>cl Q (cL 148) Q (eG.c hae)<|gr H fun gn H=>?_
 have haf:tc.toNat<xf.length:=bC gn
 refine Dv.kQ Q T Q (ab 1 Q) Q ry W3 c3 gn.1 gn.2<|Dv.oZ (j:=tc.toNat) (f:=0) (p:=vI (xf.getD tc.toNat default)) Q T Q (ab 1 Q) haf W3 Q Q<|go 1<|Dv.Hp Q T Q Q<|gr H fun gu H=>?_
 have hag:xc.toNat<xf.length:=bC gu
 exact Dv.kQ Q T Q (ab 1 Q) Q ry W3 c3 gu.1 gu.2<|Dv.IZ (j:=xc.toNat) (f:=0) (jj:=1) (max (xf.getD xc.toNat default) (av ((xf.getD tc.toNat default)+1))) Q T Q Q (cells_one (ah Q)) W3 c3 Q Q hag (Nat.le_of_ble_eq_true Q) Q (fun _=>fO kr)<|.fin<|rg 3 0<|go 3<|bk jc (av (xe+1),xf.set xc.toNat (max (xf.getD xc.toNat default) (av ((xf.getD tc.toNat default)+1)))) H
theorem ea.c (h:ea.f k a0 a1=some r):Pt prog 152 [agg (aQ.enc a0),vS a1] (agg (Pos.enc r)):=by
 refine pf func152 h fun R0 F H=>?_
 refine wr 2 3<|Dv.box Q T Q cA nofun fun ba=>al Q T tP nofun fun bc=>.fin<|wr 6 32<|gl 2 [1]<|el H fun ta haa H=>cl Q (cL 218) Q (dA.c haa)<|go 1<|Dv.lI (qs:=[vI ta,vS a1]) (css:=[[vI ta],[vS a1]]) Q T tR FF HK Q ⟨(cells_one (ah Q)),⟨(cells_one (ah Q)),T⟩⟩ Q Q<|sy 0 ?_
 refine .fin ?_
 cases H.out; exact r2 i2 Q (.cons (au Q tR Q xR (ab 0 Q) Q) .nil)
theorem kD.c (h:kD.f k a0 a1 a2=some r):Pt prog 95 [agg (bF.enc a0),vS a1,vS a2] (lr [agg (Pos.enc r.1),vB r.2]):=by
 refine pf func95 h fun R0 F H=>?_
 refine wr 3 3<|Dv.box Q T Q cA nofun fun ba=>al Q T tP nofun fun bc=>go 1<|wr 5 24<|gl 2 [1]<|el H fun ta haa H=>cl Q (cL 77) Q (iT.c haa)<|al Q T oz nofun fun bd=>sy 0 ?_
 refine .fin<|WP.seq<|wr 4 0<|gl 2 [0]<|el H fun tc hac H=>cl Q (cL 148) Q (eG.c hac)<|go 1<|cf H ?_ ?_ <;> intro H
 ·
  refine WP.skip<|wr 5 8<|gl 2 [0]<|el H fun te had H=>cl Q (cL 152) Q (ea.c had)<|sy 1 ?_
  refine gq 1 ?_
  cases H.out; exact r3 i2 Q (.cons (au Q tR Q xR (ab 1 Q) Q) (.cons (aF Q) .nil))
 refine wr 3 2<|Dv.lI (qs:=[vI 0,vS eE]) (css:=[]) Q T tR FF HK Q T Q Q<|sy 1 ?_
 refine gq 1 ?_
 cases H.out; exact r3 i2 Q (.cons (au Q tR Q xR (ab 1 Q) Q) (.cons (aF Q) .nil))
theorem qL.c (h:qL.f k a0 a1 a2=some r):Pt prog 38 [agg (pT.enc a0),agg (bF.enc a1),agg (ak.enc a2)] (lr [agg (pT.enc r.1),vB r.2.1,vI r.2.2]):=by
 refine pf func38 h fun R0 F H=>?_
 refine wr 6 15<|Dv.box Q T Q cA nofun fun ba=>Dv.box Q T Q cA nofun fun bc=>Dv.box Q T Q cA nofun fun bd=>al Q T J4 nofun fun be=>go 2<|wr 3 0<|gl 1 [1]<|el H fun ta haa H=>cl Q (cL 92) Q (fY.c haa)<|go 1<|WP.seq<|wr 7 0<|lx 4 [1] ?_
 cases cc:(a2.aH != 1)
 rotate_left
 ·
  have H:=H.ct cc
  refine go 3<|WP.cond Q (fun _=>?_) nofun
  refine wr 4 2<|gl 1 [3]<|sy 0 ?_
  refine gq 2 ?_
  cases H.out; exact r4 i2 Q (.cons (au Q zJ Q EI (ab 0 Q) Q) (.cons (aF Q) (.cons (aF Q) .nil)))
 have H:=H.cf cc
 refine go 3<|ce H ?_ ?_ <;> intro H
 ·
  refine wr 4 2<|gl 1 [3]<|sy 0 ?_
  refine gq 2 ?_
  cases H.out; exact r4 i2 Q (.cons (au Q zJ Q EI (ab 0 Q) Q) (.cons (aF Q) (.cons (aF Q) .nil)))
 refine WP.skip<|wr 9 0<|gl 7 [2,1,1,1]<|el H fun tc hac H=>cl Q (cL 93) Q (oF.c hac)<|go 1<|WP.seq<|so<|ce H ?_ ?_ <;> intro H
 ·
  refine wr 13 3840<|gl 3 [3,1]<|el H fun te had H=>cl Q (cL 94) Q (kI.c had)<|go 1<|eh Q T Q Q<|eh Q T Q Q<|eh Q T Q Q<|al Q T J5 nofun fun bg=>al Q T vQ nofun fun bh=>sy 1 ?_
  refine sy 0 ?_
  refine go 1<|wr 7 16<|gl 3 [5,1]<|Dv.lI (qs:=[sl MK.K a0.fL,vI te.1.pJ,sl ak.K te.1.fL,vI te.1.pS]) (css:=[[sl MK.K a0.fL],nZ.enc te.1]) Q T zJ F7 HY Q ⟨(cells_one dP),⟨(aZ (nZ.K.one _)),T⟩⟩ Q Q<|sy 2 ?_
  refine gq 2 ?_
  cases H.out; exact rt i2 Q () 6 [0,1,2,3,4,5] 6 (.cons (au Q zJ Q EI (ab 2 Q) Q) (.cons (aF Q) (.cons (aF Q) .nil)))
 refine WP.skip<|WP.seq<|so<|ce H ?_ ?_ <;> intro H
 ·
  refine wr 5 4<|gl 2 [3]<|sy 0 ?_
  refine gq 2 ?_
  cases H.out; exact r4 i2 Q (.cons (au Q zJ Q EI (ab 0 Q) Q) (.cons (aF Q) (.cons (aF Q) .nil)))
 refine WP.skip<|wr 12 1536<|gl 5 [2,1,1]<|el H fun tg hae H=>cl Q (cL 95) Q (kD.c hae)<|go 1<|eh Q T Q Q<|eh Q T Q Q<|al Q T tP nofun fun bi=>sy 0 ?_
 refine go 1<|wd mX 11 0<|gl 3 [4,2]<|el H fun tj haf H=>cl Q (cL 40) Q (qx.c haf)<|gl 1 [0]<|el H fun tm hag H=>cl Q (cL 25) Q (jD.c hag)<|go 1<|eh Q T Q Q<|eh Q T Q Q<|go 2<|wr 8 32<|gl 3 [4]<|Dv.lI (qs:=[sl MK.K tm.1,vI a0.fP.pJ,sl ak.K a0.fP.fL,vI a0.fP.pS]) (css:=[[sl MK.K tm.1],nZ.enc a0.fP]) Q T zJ F7 HY Q ⟨(cells_one dP),⟨(aZ (nZ.K.one _)),T⟩⟩ Q Q<|go 1<|sy 1 ?_
 refine gq 2 ?_
 cases H.out; exact r5 i2 Q (.cons (au Q zJ Q EI (ab 1 Q) Q) (.cons (aF Q) (.cons (aF Q) .nil)))
theorem cH.c (h:cH.f a0 a1 a2=some r):Pt prog 219 [vI a0,vI a1,vI a2] (vB r):=by
 refine pf func219 h fun R0 F H=>?_
 refine so<|wr 9 0<|gp 4 ?_
 cases cc:decide (a1≤a0)
 ·
  have H:=H.cf cc
  refine gq 5 ?_
  cases H.out; exact ek 0
 have H:=H.ct cc
 refine gq 5 ?_
 cases H.out; exact ek 0
theorem iL.c (h:iL.f a0=some r):Pt prog 220 [agg (ak.enc a0)] (vB r):=by
 refine pf func220 h fun R0 F H=>?_
 refine wr 2 1<|Dv.box Q T Q cA nofun fun ba=>go 1<|sp ?_
 cases H.out; exact ek 1
theorem lE.c (h:lE.f k a0=some r):Pt prog 222 [vS a0] (vB r):=by
 refine pf func222 h fun R0 F H=>?_
 refine so<|wr 11 0<|gp 3 ?_
 cases cc:decide (a0=eE)
 rotate_left
 ·
  have H:=H.ct cc
  refine gq 8 ?_
  cases H.out; exact ek 0
 have H:=H.cf cc
 refine gp 4 ?_
 cases cg:decide (a0=(⟨#[109,97,105,110]⟩:BA))
 rotate_left
 ·
  have H:=H.ct cg
  refine gq 4 ?_
  cases H.out; exact ek 0
 have H:=H.cf cg
 refine go 1<|el H fun ta haa H=>Dv.call Q (gg Q) (cL 211) Q (ei.c haa)<|gq 2 ?_
 cases H.out; exact ek 0
theorem gJ.c (h:gJ.f k a0=some r):Pt prog 221 [agg (ak.enc a0)] (vB r):=by
 refine pf func221 h fun R0 F H=>?_
 refine wr 2 1<|Dv.box Q T Q cA nofun fun ba=>go 1<|wr 14 0<|gl 2 [0]<|el H fun ta haa H=>cl Q (cL 212) Q (kB.c haa)<|gp 1 ?_
 cases cc:ta
 ·
  have H:=H.cf cc
  refine gq 10 ?_
  cases H.out; exact ek 1
 have H:=H.ct cc
 refine gl 2 [0]<|el H fun tc hac H=>Dv.call Q (gg Q) (cL 211) Q (ei.c hac)<|gp 2 ?_
 cases cg:tc
 ·
  have H:=H.cf cg
  refine gq 5 ?_
  cases H.out; exact ek 1
 have H:=H.ct cg
 refine gl 2 [0]<|el H fun te had H=>Dv.call Q (gg Q) (cL 222) Q (lE.c had)<|gq 2 ?_
 cases H.out; exact ek 1
theorem fF.c {c0:Int→Int→Int→Option Bool} (h:fF.f k a0 c0=some r):Pt prog 223 [agg (ak.enc a0),rp [nh c0]] (vB r):=by
 refine pf func223 h fun R0 F H=>?_
 refine wr 2 1<|Dv.box Q T Q cA nofun fun ba=>go 1<|wr 15 0<|gl 2 [0]<|el H fun ta haa H=>cl Q (cL 212) Q (kB.c haa)<|gp 1 ?_
 cases cc:ta
 ·
  have H:=H.cf cc
  refine gq 11 ?_
  cases H.out; exact ek 1
 have H:=H.ct cc
 refine lx 4 [0] ?_
 cases cg:!a0.j8
 rotate_left
 ·
  have H:=H.ct cg
  refine gq 7 ?_
  cases H.out; exact ek 1
 have H:=H.cf cg
 refine mL Q (gg Q) Q JE Q<|gl 2 [0]<|el H fun tc hac H=>Dv.rZ (ret:=vB tc) Q (gg Q) Q Q ⟨_,_,_,_,hac,Q,Q⟩<|gq 3 ?_
 cases H.out; exact ek 1
theorem fN.c {c0:Int→Int→Int→Option Bool} (h:fN.f a0 c0=some r):Pt prog 224 [agg (ak.enc a0),rp [nh c0]] (vB r):=by
 refine pf func224 h fun R0 F H=>?_
 refine wr 2 1<|Dv.box Q T Q cA nofun fun ba=>go 1<|wr 5 0<|mL Q T Q JE Q<|gl 2 [0]<|el H fun ta haa H=>Dv.rZ (ret:=vB ta) Q T Q Q ⟨_,_,_,_,haa,Q,Q⟩<|gq 1 ?_
 cases H.out; exact ek 1
theorem nH.c (h:nH.f k=some r):Pt prog 153 [] (sl iv r):=by
 refine pf func153 h fun R0 F H=>?_
 refine so<|wr 2 3<|al Q T zc336 nofun fun ba=>sy 0 ?_
 refine .fin<|wr 4 0<|Dv.gh (r9 (E':=[(0,eU),(1,rp [eq (.func (.func 219) #[] #[])])]) (l':=F) 0 Q (ar Q ay (ar Q kJ jG)) (gL .nil fun _=>bU)) (fun _ _=>?_)
 refine Dv.mkf (Q:=me (fun a0_=>fF.f k a0_ cH.f)) (cL 223) (by rintro _ _ ⟨a0_,r_,h_,rfl,rfl⟩; exact Pt.jZ (fF.c h_) (.cons cK (.cons (Jz (.cons (uA (cL 219) (by rintro _ _ ⟨a0_,a1_,a2_,r_,h_,rfl,rfl⟩; exact cH.c h_)) .nil)) .nil))) Q T Q Q<|Dv.mkf (Q:=me (fun a0_=>fN.f a0_ cH.f)) (cL 224) (by rintro _ _ ⟨a0_,r_,h_,rfl,rfl⟩; exact Pt.jZ (fN.c h_) (.cons cK (.cons (Jz (.cons (uA (cL 219) (by rintro _ _ ⟨a0_,a1_,a2_,r_,h_,rfl,rfl⟩; exact cH.c h_)) .nil)) .nil))) Q T Q Q<|Dv.lit iv ([iL.f,gJ.f k,fun a0_=>fF.f k a0_ cH.f,fun a0_=>fN.f a0_ cH.f]:List (ak→Option Bool)) (css:=[[jO iL.f],[jO (gJ.f k)],[jO (fun a0_=>fF.f k a0_ cH.f)],[jO (fun a0_=>fN.f a0_ cH.f)]]) Q T W273 Ka c201 z201 Q dc dc Q ⟨(zr (uA (cL 220) (by rintro _ _ ⟨a0_,r_,h_,rfl,rfl⟩; exact iL.c h_)) (ah Q)),⟨(zr (uA (cL 221) (by rintro _ _ ⟨a0_,r_,h_,rfl,rfl⟩; exact gJ.c h_)) (ah Q)),⟨(cells_one n5),⟨(cells_one n5),T⟩⟩⟩⟩ Q Q Q<|gq 1 ?_
 cases H.out; exact ek 0
theorem iF.c (h:iF.f a0=some r):Pt prog 154 [vI a0] (vB r):=by
 refine pf func154 h fun R0 F H=>?_
 refine so<|wr 7 0<|gp 3 ?_
 cases cc:decide (0≤a0)
 ·
  have H:=H.cf cc
  refine gq 4 ?_
  cases H.out; exact ek 0
 have H:=H.ct cc
 refine gq 4 ?_
 cases H.out; exact ek 0
theorem mq.c (h:mq.f a0=some r):Pt prog 155 [agg (ak.enc a0)] (agg (ak.enc r)):=by
 refine pf func155 h fun R0 F H=>?_
 refine wr 2 3<|Dv.box Q T Q cA nofun fun ba=>al Q T vQ nofun fun bc=>.fin<|wr 11 1536<|gl 8 [1,1,1,1]<|Dv.lI (qs:=[vI a0.aH,vS eE,vS a0.ai,vS eE,vS eE,vB false,vB false,vI 0,vI 0,vI a0.aT,vI a0.bf]) (css:=[[vI a0.aH],[vS a0.ai],[vI a0.aT],[vI a0.bf]]) Q T iB Bl uQ Q ⟨(cells_one (ah Q)),⟨(cells_one (ah Q)),⟨(cells_one (ah Q)),⟨(cells_one (ah Q)),T⟩⟩⟩⟩ Q Q<|al Q T vQ nofun fun bd=>sy 0 ?_
 refine .fin<|WP.seq<|sL [2]<|WP.block<|so<|ce H ?_ ?_ <;> intro H
 ·
  refine dg mX 16 43520<|gl 9 [2,2,2,2]<|sx 0 Q T Q Q cE sz9 Q Q Q pD ?_
  refine go 1<|sx 0 Q T Q Q cE sz9 Q Q Q pD ?_
  refine go 1<|sx 0 Q T Q Q cE sz9 Q Q Q pD ?_
  refine go 1<|sv 0 ?_
  refine .fin<|wr 2 2<|gl 1 [0]<|sy 1 ?_
  refine .fin ?_
  cases H.out; exact r3 i2 Q (.cons (au Q iB Q jh (ab 1 Q) Q) .nil)
 refine so<|cf H ?_ ?_ <;> intro H
 ·
  refine so<|cf H ?_ ?_ <;> intro H
  ·
   refine WP.skip<|wr 2 2<|gl 1 [0]<|sy 1 ?_
   refine .fin ?_
   cases H.out; exact r3 i2 Q (.cons (au Q iB Q jh (ab 1 Q) Q) .nil)
  refine rg 4 8<|gl 3 [2]<|sy 0 ?_
  refine .fin<|wr 2 2<|gl 1 [0]<|sy 1 ?_
  refine .fin ?_
  cases H.out; exact r3 i2 Q (.cons (au Q iB Q jh (ab 1 Q) Q) .nil)
 refine wd mX 8 160<|gl 5 [2,2]<|sx 0 Q T Q Q cE sz9 Q Q Q pD ?_
 refine go 1<|sv 0 ?_
 refine .fin<|sL [2]<|cf H ?_ ?_ <;> intro H
 ·
  refine WP.skip<|wr 2 2<|gl 1 [0]<|sy 1 ?_
  refine .fin ?_
  cases H.out; exact r3 i2 Q (.cons (au Q iB Q jh (ab 1 Q) Q) .nil)
 refine rg 4 8<|gl 3 [2]<|sy 0 ?_
 refine .fin<|wr 2 2<|gl 1 [0]<|sy 1 ?_
 refine .fin ?_
 cases H.out; exact r3 i2 Q (.cons (au Q iB Q jh (ab 1 Q) Q) .nil)
theorem eP.c (h:eP.f k a0=some r):Pt prog 96 [agg (ak.enc a0)] (vB r):=by
 refine pf func96 h fun R0 F H=>?_
 refine wr 2 1<|Dv.box Q T Q cA nofun fun ba=>go 1<|WP.seq<|wd mX 18 0<|lx 4 [0] ?_
 cases cc:decide (a0.aH<0)
 rotate_left
 ·
  have H:=H.ct cc
  refine go 14<|WP.cond Q (fun _=>?_) nofun
  refine sp ?_
  cases H.out; exact ek 1
 have H:=H.cf cc
 refine lx 5 [0] ?_
 cases cg:decide (3<a0.aH)
 rotate_left
 ·
  have H:=H.ct cg
  refine go 9<|WP.cond Q (fun _=>?_) nofun
  refine sp ?_
  cases H.out; exact ek 1
 have H:=H.cf cg
 refine el H fun ta haa H=>Dv.call Q (gg Q) (cL 153) Q (nH.c haa)<|gl 2 [0]<|gr H fun ga H=>Dv.jA Q (gg Q) Q Q W273 Ka c201 ga.1 ga.2<|mL Q (gg Q) Q sc201 Q<|gl 1 [0]<|el H fun tc hac H=>Dv.rZ (ret:=vB tc) Q (gg Q) Q Q ⟨_,_,hac,Q,Q⟩<|go 2<|ce H ?_ ?_ <;> intro H
 ·
  refine sp ?_
  cases H.out; exact ek 1
 refine WP.skip<|so<|wd mX 22 0<|gl 2 [0,0]<|el H fun te had H=>cl Q (cL 155) Q (mq.c had)<|Dv.eqs [.int .i64 a0.aH,.string a0.aa,.string a0.ai,.string a0.bE,.string a0.ae,.bool a0.ao,.bool a0.j8,.int .i64 a0.b7,.int .i64 a0.aM,.int .i64 a0.aT,.int .i64 a0.bf] [.int .i64 te.aH,.string te.aa,.string te.ai,.string te.bE,.string te.ae,.bool te.ao,.bool te.j8,.int .i64 te.b7,.int .i64 te.aM,.int .i64 te.aT,.int .i64 te.bf] Q T Q Q Q Q HM (fun _=>kn 2 dc (fun _=>Co a0 te))<|gp 1 ?_
 cases ci:decide (a0=te)
 ·
  have H:=H.cf ci
  refine gq 17 ?_
  cases H.out; exact ek 1
 have H:=H.ct ci
 refine gl 2 [0]<|el H fun tg hae H=>Dv.call Q (gg Q) (cL 156) Q (mj.c hae)<|gp 2 ?_
 cases cj:tg
 ·
  have H:=H.cf cj
  refine gq 12 ?_
  cases H.out; exact ek 1
 have H:=H.ct cj
 refine gl 3 [0]<|el H fun tj haf H=>Dv.JS Q (gg Q) Q (cL 154) Q (iF.c haf)<|gp 2 ?_
 cases ck:tj
 ·
  have H:=H.cf ck
  refine gq 6 ?_
  cases H.out; exact ek 1
 have H:=H.ct ck
 refine gl 3 [0]<|el H fun tm hag H=>Dv.JS Q (gg Q) Q (cL 154) Q (iF.c hag)<|gq 2 ?_
 cases H.out; exact ek 1
theorem kW.c {v0_0:OV} {b0_:Nat} (h:kW.f a0 a1=some r):Tr prog 157 [eW b0_,vS a1] [aJ b0_ 265 [vS a0.cO,eq v0_0.1],kK Value.string aX.O v0_0.1 a0.aq] (γ:=Unit) (fun _=>True) (fun g=>lr [agg (Event.enc r.1),vB r.2]) (fun g=>[aJ b0_ 265 [vS a0.cO,eq v0_0.1],kK Value.string aX.O v0_0.1 a0.aq]):=by
 refine tf func157 h fun R0 F H=>?_
 refine wr 2 1<|al Q T zO nofun fun ba=>go 1<|WP.seq<|wr 4 0<|go 2<|el H fun ta haa H=>oU 3 [1,2,0] (cL 144) (ey.c haa (b0_:=b0_) (v0_0:=v0_0)) ?_
 refine go 1<|ce H ?_ ?_ <;> intro H
 ·
  refine wr 3 2<|Dv.lI (qs:=[vS eE,vS eE,eU,vS eE,vS eE,vI 0]) (css:=[]) Q T mZ Jy Ga Q T Q Q<|sy 0 ?_
  refine gq 1 ?_
  cases H.out; exact rt i2 Q () 3 [0,1,2] 1 (.cons (qw (au Q mZ Q pG (ab 0 Q) Q) (pq (.cons cK (.cons cK (.cons dE (.cons cK (.cons cK (.cons cK .nil)))))))) (.cons (aF Q) .nil))
 refine WP.skip<|wr 12 1024<|gl 5 [1]<|vg (mI 2 Q) fun za hac=>?_
 refine Dv.EE ji Q T Q (ab 0 Q) Q wB (dR W9) Bm (fun _=>Q)<|gr H fun ga H=>vg (qP hac Q ga (pm 4 [1,0,2,3])) fun _ _=>?_
 refine Dv.qz aX.nn Q T Q (ab 0 Q)<|vg (aX.iU 0 Q) fun gb had=>?_
 refine fp had Q T Q ud<|gl 1 [0]<|el H fun tc hae H=>cl Q (cL 146) Q (iK.c hae)<|sy 3 ?_
 refine go 1<|wg (aX.shut (p:=((mget (cW a0.aq za) a1).getD ji)) (m:=(mget a0.aq a1).getD default) gb had (pm 5 [0,1,2,3,4])) fun _ _=>?_
 refine wg (oL hac Q ga (pm 5 [0,1,2,3,4])) fun _ _=>?_
 refine wg (iA hac Q (pm 4 [1,0,2,3])) fun _ _=>?_
 cases H.out; exact rt i2 Q () 3 [1,2,0] 1 (.cons (au Q mZ Q pG (ab 1 Q) Q) (.cons (aF Q) .nil))
theorem jg.c {v0_0:OV} {b0_:Nat} (h:jg.f a0 a1 a2 a3=some r):Tr prog 97 [eW b0_,vS a1,vS a2,vS a3] [aJ b0_ 186 [eq v0_0.1],kK Value.string bn.O v0_0.1 a0.br] (γ:=Unit) (fun _=>True) (fun g=>vI r) (fun g=>[aJ b0_ 186 [eq v0_0.1],kK Value.string bn.O v0_0.1 a0.br]):=by
 refine tf func97 h fun R0 F H=>?_
 refine so<|wr 5 4<|go 2<|el H fun ta haa H=>cx 2 [0,1] (cL 88) (aP.c haa (b0_:=b0_) (v0_0:=v0_0)) nofun fun va _=>?_
 refine Dv.mkc (fst:=#[va.1]) Q T Q<|go 1<|wr 9 192<|go 2<|vg (bn.iU 2 Q) fun ga hac=>?_
 refine el H fun tc had H=>Dv.EO (fst:=#[va.1]) (B:=[aJ ga.1 265 [vS ta.cO,eq ga.2.1],kK Value.string aX.O ga.2.1 ta.aq]) (F:=[aJ b0_ 186 [eq v0_0.1],Jx Value.string bn.O v0_0.1 a0.br a1 va]++F) Q T Q (cL 157) Q (Tr.jZ (kW.c had (b0_:=ga.1) (v0_0:=ga.2)) (.cons (iM hac) (.cons cK .nil))) (my (L:=[aJ ga.1 265 [vS ta.cO,eq ga.2.1],kK Value.string aX.O ga.2.1 ta.aq,aJ b0_ 186 [eq v0_0.1],Jx Value.string bn.O v0_0.1 a0.br a1 va]) (F:=F) [0,1,2,3] Q Q Q)<|go 1<|eh Q T Q Q<|eh Q T Q Q<|al Q T zO nofun fun ba=>sy 0 ?_
 refine go 1<|WP.seq<|WP.block<|so<|ce H ?_ ?_ <;> intro H
 ·
  refine so<|wg (bn.shut (p:=va) (m:=ta) (ga.1,ga.2) hac (pm 5 [1,2,0,3,4])) fun _ _=>?_
  refine wg (fI (aP.r haa) (pm 4 [3,0,1,2])) fun _ _=>?_
  cases H.out; exact et () 3 [1,2,0] 1
 refine WP.seq<|so<|ce H ?_ ?_ <;> intro H
 ·
  refine WP.skip<|ce H ?_ ?_ <;> intro H
  ·
   refine so<|wg (bn.shut (p:=va) (m:=ta) (ga.1,ga.2) hac (pm 5 [1,2,0,3,4])) fun _ _=>?_
   refine wg (fI (aP.r haa) (pm 4 [3,0,1,2])) fun _ _=>?_
   cases H.out; exact et () 3 [1,2,0] 1
  refine WP.skip<|so<|wg (bn.shut (p:=va) (m:=ta) (ga.1,ga.2) hac (pm 5 [1,2,0,3,4])) fun _ _=>?_
  refine wg (fI (aP.r haa) (pm 4 [3,0,1,2])) fun _ _=>?_
  cases H.out; exact et () 3 [1,2,0] 1
 refine wr 8 0<|gp 3 ?_
 cases cc:decide (a3=(⟨#[109,97,105,110]⟩:BA))
 ·
  have H:=H.cf cc
  refine go 5<|WP.cond Q nofun (fun _=>?_)
  refine so<|ce H ?_ ?_ <;> intro H
  ·
   refine WP.skip<|ce H ?_ ?_ <;> intro H
   ·
    refine so<|wg (bn.shut (p:=va) (m:=ta) (ga.1,ga.2) hac (pm 5 [1,2,0,3,4])) fun _ _=>?_
    refine wg (fI (aP.r haa) (pm 4 [3,0,1,2])) fun _ _=>?_
    cases H.out; exact et () 3 [1,2,0] 1
   refine WP.skip<|so<|wg (bn.shut (p:=va) (m:=ta) (ga.1,ga.2) hac (pm 5 [1,2,0,3,4])) fun _ _=>?_
   refine wg (fI (aP.r haa) (pm 4 [3,0,1,2])) fun _ _=>?_
   cases H.out; exact et () 3 [1,2,0] 1
  refine rg 5 0<|gl 5 [0]<|ce H ?_ ?_ <;> intro H
  ·
   refine so<|wg (bn.shut (p:=va) (m:=ta) (ga.1,ga.2) hac (pm 5 [1,2,0,3,4])) fun _ _=>?_
   refine wg (fI (aP.r haa) (pm 4 [3,0,1,2])) fun _ _=>?_
   cases H.out; exact et () 3 [1,2,0] 1
  refine WP.skip<|so<|wg (bn.shut (p:=va) (m:=ta) (ga.1,ga.2) hac (pm 5 [1,2,0,3,4])) fun _ _=>?_
  refine wg (fI (aP.r haa) (pm 4 [3,0,1,2])) fun _ _=>?_
  cases H.out; exact et () 3 [1,2,0] 1
 have H:=H.ct cc
 refine gl 5 [0]<|ce H ?_ ?_ <;> intro H
 ·
  refine WP.skip<|ce H ?_ ?_ <;> intro H
  ·
   refine so<|wg (bn.shut (p:=va) (m:=ta) (ga.1,ga.2) hac (pm 5 [1,2,0,3,4])) fun _ _=>?_
   refine wg (fI (aP.r haa) (pm 4 [3,0,1,2])) fun _ _=>?_
   cases H.out; exact et () 3 [1,2,0] 1
  refine WP.skip<|so<|wg (bn.shut (p:=va) (m:=ta) (ga.1,ga.2) hac (pm 5 [1,2,0,3,4])) fun _ _=>?_
  refine wg (fI (aP.r haa) (pm 4 [3,0,1,2])) fun _ _=>?_
  cases H.out; exact et () 3 [1,2,0] 1
 refine so<|ce H ?_ ?_ <;> intro H
 ·
  refine WP.skip<|ce H ?_ ?_ <;> intro H
  ·
   refine so<|wg (bn.shut (p:=va) (m:=ta) (ga.1,ga.2) hac (pm 5 [1,2,0,3,4])) fun _ _=>?_
   refine wg (fI (aP.r haa) (pm 4 [3,0,1,2])) fun _ _=>?_
   cases H.out; exact et () 3 [1,2,0] 1
  refine WP.skip<|so<|wg (bn.shut (p:=va) (m:=ta) (ga.1,ga.2) hac (pm 5 [1,2,0,3,4])) fun _ _=>?_
  refine wg (fI (aP.r haa) (pm 4 [3,0,1,2])) fun _ _=>?_
  cases H.out; exact et () 3 [1,2,0] 1
 refine rg 5 0<|gl 5 [0]<|ce H ?_ ?_ <;> intro H
 ·
  refine so<|wg (bn.shut (p:=va) (m:=ta) (ga.1,ga.2) hac (pm 5 [1,2,0,3,4])) fun _ _=>?_
  refine wg (fI (aP.r haa) (pm 4 [3,0,1,2])) fun _ _=>?_
  cases H.out; exact et () 3 [1,2,0] 1
 refine WP.skip<|so<|wg (bn.shut (p:=va) (m:=ta) (ga.1,ga.2) hac (pm 5 [1,2,0,3,4])) fun _ _=>?_
 refine wg (fI (aP.r haa) (pm 4 [3,0,1,2])) fun _ _=>?_
 cases H.out; exact et () 3 [1,2,0] 1
theorem b9.c (h:b9.f k a0 a1=some r):Pt prog 226 [sl ak.K a0,agg (ak.enc a1)] (vI r):=by
 refine pf func226 h fun R0 F H=>?_
 refine wr 2 1<|Dv.box Q T Q cA nofun fun ba=>go 1<|sr H id [] (fun _=>[]) (fun _=>[]) (fun pa H=>?_) (fun H=>?_)
 ·
  refine sp ?_
  cases H.out; exact ek 1
 refine wr 3 0<|go 1<|Dv.eX Q T Q fS<|go 1<|WP.block<|ws 1 [0] 0 ?_
 refine lq (fun j_ (pc:Int)=>b9.l0 k a0 a1 j_ pc) 0 H [0,3,7] (fun pc=>[(8,vI pc)]) (fun _=>[]) ?_
 rintro j_ xc H
 rcases j_ with _ | ja
 ·
  exact (aW.no H).elim
 try dsimp only at H
 rw [b9.l0] at H
 refine so<|WP.seq<|cf H ?_ ?_ <;> intro H
 ·
  refine WP.exit ?_
  have H:=H.out
  exact jn (xc,decide (xc<(a0.length:Int))) H
 refine WP.skip<|WP.seq<|WP.block<|so<|wd mX 6 0<|gl 3 [0]<|gr H fun ga H=>Dv.jA Q T Q Q fS iB jh ga.1 ga.2<|ll Q T Q wj Q<|Dv.eqs [.int .i64 a1.aH,.string a1.aa,.string a1.ai,.string a1.bE,.string a1.ae,.bool a1.ao,.bool a1.j8,.int .i64 a1.b7,.int .i64 a1.aM,.int .i64 a1.aT,.int .i64 a1.bf] [.int .i64 ((ak.K.at a0 xc).aH),.string ((ak.K.at a0 xc).aa),.string ((ak.K.at a0 xc).ai),.string ((ak.K.at a0 xc).bE),.string ((ak.K.at a0 xc).ae),.bool ((ak.K.at a0 xc).ao),.bool ((ak.K.at a0 xc).j8),.int .i64 ((ak.K.at a0 xc).b7),.int .i64 ((ak.K.at a0 xc).aM),.int .i64 ((ak.K.at a0 xc).aT),.int .i64 ((ak.K.at a0 xc).bf)] Q T Q Q Q Q HM (fun _=>kn 2 dc (fun _=>Co a1 (ak.K.at a0 xc)))<|.fin<|cf H ?_ ?_ <;> intro H
 ·
  exact WP.skip<|rg 2 0<|go 2<|bk ja (av (xc+1)) H
 refine sp ?_
 have H:=H.fU
 cases H.out; exact ek 1
theorem fm.c (h:fm.f k a0 a1=some r):Pt prog 158 [sl ak.K a0,agg (ak.enc a1)] (vB r):=by
 refine pf func158 h fun R0 F H=>?_
 refine wr 2 1<|Dv.box Q T Q cA nofun fun ba=>go 1<|wr 5 0<|gl 2 [0]<|el H fun ta haa H=>cl Q (cL 226) Q (b9.c haa)<|gq 2 ?_
 cases H.out; exact ek 1
theorem fj.c {a1 a2:Int} {p0_:OV} (h:fj.f a0 a1 a2=some r):Tr prog 159 [eq p0_.1,vI a1,vI a2] [own ak.K p0_.1 a0] (γ:=OV) (fun _=>True) (fun g=>eq g.1) (fun g=>[own ak.K g.1 r]):=by
  unfold fj.f at h
  obtain ⟨⟨h1,h2,h3⟩,h5⟩:=(aW.of h).an
  obtain rfl:=aW.out h5
  clear h h5
  obtain ⟨i,rfl⟩:=Int.eq_ofNat_of_zero_le h1
  obtain ⟨j,rfl⟩:=Int.eq_ofNat_of_zero_le (show (0:Int)≤a2 by omega)
  have hij:i≤j:=om
  have hj:j≤a0.length:=om
  obtain ⟨v,hv⟩:=p0_
  rw [Int.toNat_natCast,Int.toNat_natCast]
  refine Tr.body func159 (c:=_) Q ntmps159 (Nat.le_of_ble_eq_true Q) fun R0 F=>?_
  refine so<|wr 6 0<|go 4<|Dv.kZ (Kd:=ak.K) (xs:=a0) (v:=v) Q T Q (ab 0 Q) fS<|Dv.sl3 (Kd:=ak.K) Q T Q (ab 0 Q) fS iB jh (eT Q) (eT Q) (eT Q) hij hj<|.fin<|WP.seq<|so<|WP.cond Q (fun c0=>?_) (fun c0=>?_)
  · have e1:i=j:=by have:=beq_iff_eq.1 c0; omega
    subst e1
    rw [List.take_append_drop]
    refine sp ?_
    exact WP.B4 (fun _ _ h=>h) Q (⟨v,hv⟩:OV) T (.cons (aF Q) .nil) Q (uw (L:=[own ak.K v a0]) (F:=F) [0] 0 Q Q Q)
  have hlt:i<j:=by
    have:¬ ((i:Int)=(j:Int)):=by simpa using c0
    omega
  have hzl:(a0.take i++a0.drop j++a0.drop (i+(a0.length-j))).length=a0.length:=by simp only [List.length_append,List.length_take,List.length_drop]; omega
  have hpl:(i+(a0.length-j))<(a0.take i++a0.drop j++a0.drop (i+(a0.length-j))).length:=by rw [hzl]; omega
  have hfin:((a0.take i++a0.drop j++a0.drop (i+(a0.length-j))).take (i+(a0.length-j))++List.replicate ((a0.take i++a0.drop j++a0.drop (i+(a0.length-j))).length-(i+(a0.length-j))) (⟨0,eE,eE,eE,eE,false,false,0,0,0,0⟩:ak)).take (i+(a0.length-j))=a0.take i++a0.drop j:=by
    have hl:(a0.take i++a0.drop j).length=(i+(a0.length-j)):=by rw [List.length_append,List.length_take,List.length_drop]; omega
    rw [List.take_append,List.take_take,Nat.min_self,List.take_left' hl]
    have:(i+(a0.length-j))-(a0.take i++a0.drop j).length=0:=om
    rw [this,List.take_zero,List.append_nil]
  refine WP.skip<|wr 3 0<|go 1<|Dv.kZ (Kd:=ak.K) (xs:=a0) (v:=v) Q T Q (ab 0 Q) fS<|go 1<|wd mX 8 64<|go 2<|Dv.slpf (Kd:=ak.K) Q T Q (ab 0 Q) fS iB jh (eT Q) (Nat.le_trans hij hj)<|go 2<|Dv.slt (Kd:=ak.K) (p:=j) Q T Q (ab 0 Q) fS iB jh (eT Q) hj<|Dv.apt (Kd:=ak.K) (jj:=0) Q T Q Q Q fS fS iB jh ⟨hlt,hj⟩ (fun _=>fO kr)<|gq 1 ?_
  refine wr 6 32<|go 2<|Dv.lenp (Kd:=ak.K) (xs:=(a0.take i++a0.drop j++a0.drop (i+(a0.length-j)))) Q T Q (ab 0 Q) fS<|go 1<|Dv.slpt (Kd:=ak.K) (xs:=(a0.take i++a0.drop j++a0.drop (i+(a0.length-j)))) (p:=(i+(a0.length-j))) (q:=a0.length) Q T Q (ab 0 Q) fS iB jh (eT Q) (eT Q) om (Nat.le_of_eq hzl.symm)<|Dv.clrt (Kd:=ak.K) (jj:=0) (⟨0,eE,eE,eE,eE,false,false,0,0,0,0⟩:ak) Q T ((show opv _ _=some (eq (tlv _ v a0.length (i+(a0.length-j)))) from Q).trans (congrArg (fun z=>some (eq (tlv _ v z (i+(a0.length-j))))) hzl.symm)) fS uQ Q Q (fun u hu=>List.all_eq_true.1 (show (Value.cells _).toList.all (fun u=>u.oneCell')=true by kernel_rfl) u hu) hpl Q nofun<|.fin<|sp ?_
  refine WP.gh (l':=fun _:Unit=>[own ak.K (pfv v (i+(a0.length-j))) (a0.take i++a0.drop j)]++F) (iZ (ok:=fun _=>True) (fun R w h=>by obtain ⟨_,_,h2⟩:=EC (m:=(i+(a0.length-j))) 0 rfl (by rw [List.length_append,List.length_take,List.length_replicate]; omega) R w h; rw [hfin] at h2; exact ⟨(),T,h2⟩)) (fun _ _=>?_)
  exact WP.B4 (fun _ _ h=>h) Q (⟨pfv v (i+(a0.length-j)),CC hv⟩:OV) T (.cons (aF Q) .nil) Q (uw (L:=[own ak.K (pfv v (i+(a0.length-j))) (a0.take i++a0.drop j)]) (F:=F) [0] 0 Q Q Q)
theorem jQ.c {p0_:OV} (h:jQ.f k a0 a1=some r):Tr prog 98 [eq p0_.1,agg (ak.enc a1)] [jq.O p0_ a0] (γ:=Unit) (fun _=>True) (fun g=>lr [agg (ak.enc r.1),vB r.2.1]) (fun g=>[jq.O p0_ r.2.2]):=by
 refine tf func98 h fun R0 F H=>?_
 refine wr 3 3<|Dv.box Q T Q cA nofun fun ba=>al Q T vQ nofun fun bc=>go 1<|WP.seq<|WP.seq<|wg (jq.iU 2 Q) fun ga haa=>?_
 refine dg mX 6 0<|go 1<|Dv.bW haa Q T Q<|fp haa Q T Q oW<|gl 2 [0,3]<|el H fun ta hac H=>oU (B:=[own ak.K ga.2.1 a0.fl]) 4 [1,0,2,3] (cL 158) (Pt.Bn _ (fm.c hac) (.cons (sG (ab 0 Q)) (.cons wC .nil)) o5) ?_
 refine .fin<|ce H ?_ ?_ <;> intro H
 ·
  refine wr 3 2<|Dv.lI (qs:=[vI 0,vS eE,vS eE,vS eE,vS eE,vB false,vB false,vI 0,vI 0,vI 0,vI 0]) (css:=[]) Q T iB Bl uQ Q T Q Q<|sy 2 ?_
  refine go 1<|wg (jq.shut (p:=p0_) (m:=a0) (ga.1,ga.2) haa (pm 4 [0,1,2,3])) fun _ _=>?_
  cases H.out; exact rt i2 Q () 3 [1,2,0] 2 (.cons (au Q iB Q jh (ab 1 Q) Q) (.cons (aF Q) .nil))
 refine WP.skip<|wd mX 11 1152<|go 2<|Dv.bW haa Q T Q<|fp haa Q T Q oW<|gl 2 [0,3]<|Dv.lit ak.K ([a1]:List ak) (css:=[ak.enc a1]) Q T fS iB jh uQ Q dc dc Q ⟨(aZ (ak.K.one _)),T⟩ Q Q Q<|gr H fun gb H=>Dv.Eu (Kd:=ak.K) (jj:=1) (ys:=([a1]:List ak)) (fun va:OV=>[aJ ga.1 247 [vI a0.dX,eq ga.2.1,vI a0.rf],own ak.K va.1 (a0.fl++([a1]:List ak)),aJ bc 52 [vI 0,vS eE,vS eE,vS eE,vS eE,vB false,vB false,vI 0,vI 0,vI 0,vI 0],aJ ba 52 (ak.enc a1)]++F) Q T Q Q Q bQ fS (.inr ⟨_,fS⟩) nI Q dc gb Q pD (fun va=>?_)
 refine Dv.bW haa Q T Q<|fp haa Q T Q oW<|sx 0 Q T Q Q (cells_one bL) rT Q Q Q pB ?_
 refine .fin<|WP.seq<|wd mX 10 0<|go 1<|Dv.bW haa Q T Q<|fp haa Q T Q oW<|gl 1 [0]<|Dv.kZ Q T Q (ab 1 Q) fS<|go 1<|Dv.bW haa Q T Q<|fp haa Q T Q Hq<|gl 2 [0]<|ce H ?_ ?_ <;> intro H
 ·
  refine wr 3 2<|Dv.lI (qs:=[vI 0,vS eE,vS eE,vS eE,vS eE,vB false,vB false,vI 0,vI 0,vI 0,vI 0]) (css:=[]) Q T iB Bl uQ Q T Q Q<|sy 2 ?_
  refine go 1<|wg (jq.shut (p:=p0_) (m:=(⟨a0.dX,a0.fl++([a1]:List ak),a0.rf⟩:jq)) (ga.1,va) haa (pm 4 [0,1,2,3])) fun _ _=>?_
  cases H.out; exact rt i2 Q () 3 [1,2,0] 2 (.cons (au Q iB Q jh (ab 1 Q) Q) (.cons (aF Q) .nil))
 refine WP.skip<|wr 8 192<|go 1<|Dv.bW haa Q T Q<|fp haa Q T Q oW<|gl 1 [0]<|gr H fun gi H=>?_
 have had:(0:Int).toNat<(a0.fl++([a1]:List ak)).length:=bC gi
 refine Dv.kQ Q T Q (ab 1 Q) Q fS iB jh gi.1 gi.2<|Dv.pM (j:=((0:Int).toNat)) (f:=0) Q T Q (ab 1 Q) had iB Q jh (Nat.le_of_ble_eq_true Q)<|al Q T vQ nofun fun bd=>sy 0 ?_
 refine .fin<|wr 9 288<|go 2<|Dv.bW haa Q T Q<|fp haa Q T Q oW<|gl 1 [1]<|el H fun tc hae H=>cx 5 [2,0,1,3,4] (cL 159) (fj.c hae (p0_:=va)) nofun fun gj _=>?_
 refine Dv.bW haa Q T Q<|fp haa Q T Q oW<|sx 2 Q T Q Q (cells_one bL) rT Q Q Q nofun ?_
 refine .fin<|wr 8 128<|go 1<|Dv.bW haa Q T Q<|fp haa Q T Q C9<|gl 2 [2]<|Dv.bW haa Q T Q<|fp haa Q T Q C9<|sy 2 ?_
 refine .fin<|wr 3 2<|gl 1 [1]<|sy 3 ?_
 refine go 1<|wg (jq.shut (p:=p0_) (m:=(⟨a0.dX,tc,av (a0.rf+1)⟩:jq)) (ga.1,gj) haa (pm 5 [2,0,1,3,4])) fun _ _=>?_
 cases H.out; exact rt i2 Q () 4 [1,2,3,0] 3 (.cons (au Q iB Q jh (ab 2 Q) Q) (.cons (aF Q) .nil))
theorem gV.c {v0_0:OV} {b0_:Nat} (h:gV.f a0 a1=some r):Tr prog 160 [eW b0_,vS a1] [aJ b0_ 265 [vS a0.cO,eq v0_0.1],kK Value.string aX.O v0_0.1 a0.aq] (γ:=Unit) (fun _=>True) (fun g=>lr [agg (Pos.enc r.1),vB r.2]) (fun g=>[aJ b0_ 265 [vS a0.cO,eq v0_0.1],kK Value.string aX.O v0_0.1 a0.aq]):=by
 refine tf func160 h fun R0 F H=>?_
 refine wr 2 1<|al Q T tP nofun fun ba=>go 1<|WP.seq<|wr 4 0<|go 2<|el H fun ta haa H=>oU 3 [1,2,0] (cL 144) (ey.c haa (b0_:=b0_) (v0_0:=v0_0)) ?_
 refine go 1<|ce H ?_ ?_ <;> intro H
 ·
  refine wr 3 2<|Dv.lI (qs:=[vI 0,vS eE]) (css:=[]) Q T tR FF HK Q T Q Q<|sy 0 ?_
  refine gq 1 ?_
  cases H.out; exact rt i2 Q () 3 [0,1,2] 1 (.cons (au Q tR Q xR (ab 0 Q) Q) (.cons (aF Q) .nil))
 refine WP.skip<|wr 13 2048<|gl 5 [1]<|vg (mI 2 Q) fun za hac=>?_
 refine Dv.EE ji Q T Q (ab 0 Q) Q wB (dR W9) Bm (fun _=>Q)<|gr H fun ga H=>vg (qP hac Q ga (pm 4 [1,0,2,3])) fun _ _=>?_
 refine Dv.qz aX.nn Q T Q (ab 0 Q)<|vg (aX.iU 0 Q) fun gb had=>?_
 refine fp had Q T Q yo<|gl 2 [0]<|Dv.lI (qs:=[vI (((mget a0.aq a1).getD default).cM),vS a1]) (css:=[[vI (((mget a0.aq a1).getD default).cM)],[vS a1]]) Q T tR FF HK Q ⟨(cells_one (ah Q)),⟨(cells_one (ah Q)),T⟩⟩ Q Q<|sy 3 ?_
 refine go 1<|wg (aX.shut (p:=((mget (cW a0.aq za) a1).getD ji)) (m:=(mget a0.aq a1).getD default) gb had (pm 5 [0,1,2,3,4])) fun _ _=>?_
 refine wg (oL hac Q ga (pm 5 [0,1,2,3,4])) fun _ _=>?_
 refine wg (iA hac Q (pm 4 [1,0,2,3])) fun _ _=>?_
 cases H.out; exact rt i2 Q () 3 [1,2,0] 1 (.cons (au Q tR Q xR (ab 1 Q) Q) (.cons (aF Q) .nil))
theorem fH.c {v0_0:OV} {b0_:Nat} (h:fH.f a0 a1 a2=some r):Tr prog 99 [eW b0_,vS a1,vS a2] [aJ b0_ 186 [eq v0_0.1],kK Value.string bn.O v0_0.1 a0.br] (γ:=Unit) (fun _=>True) (fun g=>lr [agg (Pos.enc r.1),vB r.2]) (fun g=>[aJ b0_ 186 [eq v0_0.1],kK Value.string bn.O v0_0.1 a0.br]):=by
 refine tf func99 h fun R0 F H=>?_
 refine wr 2 1<|al Q T tP nofun fun ba=>go 1<|wr 9 132<|go 2<|el H fun ta haa H=>cx 3 [1,2,0] (cL 88) (aP.c haa (b0_:=b0_) (v0_0:=v0_0)) nofun fun va _=>?_
 refine go 1<|vg (bn.iU 2 Q) fun ga hac=>?_
 refine el H fun tc had H=>oU 5 [0,1,2,3,4] (cL 160) (Tr.jZ (gV.c had (b0_:=ga.1) (v0_0:=ga.2)) (.cons (iM hac) (.cons cK .nil))) ?_
 refine eh Q T Q Q<|eh Q T Q Q<|sy 4 ?_
 refine go 1<|wg (bn.shut (p:=va) (m:=ta) (ga.1,ga.2) hac (pm 5 [0,1,2,3,4])) fun _ _=>?_
 refine wg (fI (aP.r haa) (pm 4 [2,0,1,3])) fun _ _=>?_
 cases H.out; exact rt i2 Q () 3 [2,1,0] 1 (.cons (au Q tR Q xR (ab 2 Q) Q) (.cons (aF Q) .nil))
theorem cmp_isNaN_string.c (h:cmp_isNaN_string.f a0=some r):Pt prog 132 [vS a0] (vB r):=by
 refine pf func132 h fun R0 F H=>?_
 refine so<|sp ?_
 cases H.out; exact ek 0
theorem aC.c (h:aC.f a0 a1=some r):Pt prog 65 [vS a0,vS a1] (vI r):=by
 refine pf func65 h fun R0 F H=>?_
 refine so<|wr 3 0<|go 1<|el H fun ta haa H=>cl Q (cL 132) Q (cmp_isNaN_string.c haa)<|go 1<|wr 3 0<|go 1<|el H fun tc hac H=>cl Q (cL 132) Q (cmp_isNaN_string.c hac)<|go 1<|WP.seq<|so<|ce H ?_ ?_ <;> intro H
 ·
  refine WP.seq<|so<|ce H ?_ ?_ <;> intro H
  ·
   refine sp ?_
   cases H.out; exact ek 0
  refine WP.skip<|sp ?_
  cases H.out; exact ek 0
 refine WP.skip<|WP.seq<|so<|ce H ?_ ?_ <;> intro H
 ·
  refine sp ?_
  cases H.out; exact ek 0
 refine WP.skip<|WP.seq<|so<|ce H ?_ ?_ <;> intro H
 ·
  refine sp ?_
  cases H.out; exact ek 0
 refine WP.skip<|WP.seq<|so<|ce H ?_ ?_ <;> intro H
 ·
  refine sp ?_
  cases H.out; exact ek 0
 refine WP.skip<|sp ?_
 cases H.out; exact ek 0
theorem bD.c (h:bD.f k a0=some r):Pt prog 128 [sl (bG .i64) a0] (vI r):=by
 refine pf func128 h fun R0 F H=>?_
 refine so<|so<|sr H id [3] (fun _=>[]) (fun _=>[]) (fun pa H=>?_) (fun H=>?_)
 ·
  refine sp ?_
  cases H.out; exact ek 0
 refine wr 3 0<|go 1<|Dv.eX Q T Q ry<|go 1<|WP.block<|ws 0 [] 0 ?_
 refine lq (fun j_ (pc:Int)=>bD.l0 k a0 j_ pc) 0 H [3,6,7] (fun pc=>[(8,vI pc)]) (fun _=>[]) ?_
 rintro j_ xc H
 rcases j_ with _ | ja
 ·
  exact (aW.no H).elim
 try dsimp only at H
 rw [bD.l0] at H
 refine so<|WP.seq<|cf H ?_ ?_ <;> intro H
 ·
  refine WP.exit ?_
  have H:=H.out
  exact jn (xc,decide (xc<(a0.length:Int))) H
 refine WP.skip<|WP.seq<|WP.block<|wr 3 0<|gr H fun ga H=>Dv.jA Q T Q Q ry W3 c3 ga.1 ga.2<|mL Q T Q Hm Q<|go 1<|so<|cf H ?_ ?_ <;> intro H
 ·
  exact WP.skip<|rg 2 0<|go 2<|bk ja (av (xc+1)) H
 refine sp ?_
 have H:=H.fU
 cases H.out; exact ek 0
theorem cmp_isNaN_int.c (h:cmp_isNaN_int.f a0=some r):Pt prog 193 [vI a0] (vB r):=by
 refine pf func193 h fun R0 F H=>?_
 refine so<|sp ?_
 cases H.out; exact ek 0
theorem cB.c (h:cB.f a0 a1=some r):Pt prog 129 [vI a0,vI a1] (vI r):=by
 refine pf func129 h fun R0 F H=>?_
 refine so<|wr 3 0<|go 1<|el H fun ta haa H=>cl Q (cL 193) Q (cmp_isNaN_int.c haa)<|go 1<|wr 3 0<|go 1<|el H fun tc hac H=>cl Q (cL 193) Q (cmp_isNaN_int.c hac)<|go 1<|WP.seq<|so<|ce H ?_ ?_ <;> intro H
 ·
  refine WP.seq<|so<|ce H ?_ ?_ <;> intro H
  ·
   refine sp ?_
   cases H.out; exact ek 0
  refine WP.skip<|sp ?_
  cases H.out; exact ek 0
 refine WP.skip<|WP.seq<|so<|ce H ?_ ?_ <;> intro H
 ·
  refine sp ?_
  cases H.out; exact ek 0
 refine WP.skip<|WP.seq<|so<|ce H ?_ ?_ <;> intro H
 ·
  refine sp ?_
  cases H.out; exact ek 0
 refine WP.skip<|WP.seq<|so<|ce H ?_ ?_ <;> intro H
 ·
  refine sp ?_
  cases H.out; exact ek 0
 refine WP.skip<|sp ?_
 cases H.out; exact ek 0
theorem iz.c (h:iz.f k a0 a1=some r):Pt prog 161 [agg (Pos.enc a0),agg (Pos.enc a1)] (vI r):=by
 refine pf func161 h fun R0 F H=>?_
 refine wr 3 3<|Dv.box Q T Q cA nofun fun ba=>Dv.box Q T Q cA nofun fun bc=>go 1<|wd mX 13 0<|gl 4 [1,0]<|el H fun ta haa H=>cl Q (cL 129) Q (cB.c haa)<|gl 4 [1,0]<|el H fun tc hac H=>cl Q (cL 65) Q (aC.c hac)<|Dv.lit (bG .i64) ([ta,tc]:List Int) (css:=[[vI ta],[vI tc]]) Q T ry W3 c3 z3 Q dc dc Q ⟨(cells_one (ah Q)),⟨(cells_one (ah Q)),T⟩⟩ Q Q Q<|el H fun te had H=>cl Q (cL 128) Q (bD.c had)<|gq 1 ?_
 cases H.out; exact ek 2
theorem gA.c {p0_:OV} (h:gA.f k a0 a1 a2=some r):Tr prog 100 [eq p0_.1,agg (bB.enc a1),agg (Pos.enc a2)] [jX.O p0_ a0] (γ:=Unit) (fun _=>True) (fun g=>vB r.1) (fun g=>[jX.O p0_ r.2]):=by
 refine tf func100 h fun R0 F H=>?_
 refine wr 3 3<|Dv.box Q T Q cA nofun fun ba=>Dv.box Q T Q cA nofun fun bc=>go 1<|WP.seq<|wg (jX.iU 2 Q) fun ga haa=>?_
 refine dg mX 12 1536<|go 1<|Dv.bW haa Q T Q<|fp haa Q T Q uo<|gl 2 [0,3]<|Dv.mlkq (⟨0,eE⟩:Pos) Q T Q (ab 1 Q) Q (bB.kq a1) E7 C3 HK (fun _=>⟨_,Q,Cs.eqz Q⟩)<|go 1<|eh Q T Q Q<|eh Q T Q Q<|al Q T tP pD fun bd=>sx 0 Q T Q Q cA Fm Q Q Q pD ?_
 refine go 1<|WP.seq<|wr 7 0<|gp 2 ?_
 cases cc:(mget a0.iS a1).isSome
 ·
  have H:=H.cf cc
  refine go 5<|WP.cond Q nofun (fun _=>?_)
  refine WP.skip<|wd mX 7 64<|go 1<|Dv.bW haa Q T Q<|fp haa Q T Q uo<|gl 3 [1,4,3]<|Dv.mupq (jj:=2) a2 Q T Q Q Q (bB.kq a1) Q E7 C3 (fun _=>fO kr)<|.fin<|so<|wg (jX.shut (p:=p0_) (m:=(⟨mput a0.iS a1 a2⟩:jX)) (ga.1,ga.2) haa (pm 5 [1,2,0,3,4])) fun _ _=>?_
  cases H.out; exact et () 4 [1,2,3,0] 3
 have H:=H.ct cc
 refine gl 2 [0,3]<|el H fun ta hac H=>Dv.call Q (gg Q) (cL 161) Q (iz.c hac)<|go 2<|ce H ?_ ?_ <;> intro H
 ·
  refine so<|wg (jX.shut (p:=p0_) (m:=a0) (ga.1,ga.2) haa (pm 5 [1,2,0,3,4])) fun _ _=>?_
  cases H.out; exact et () 4 [1,2,3,0] 3
 refine WP.skip<|wd mX 7 64<|go 1<|Dv.bW haa Q T Q<|fp haa Q T Q uo<|gl 3 [1,4,3]<|Dv.mupq (jj:=2) a2 Q T Q Q Q (bB.kq a1) Q E7 C3 (fun _=>fO kr)<|.fin<|so<|wg (jX.shut (p:=p0_) (m:=(⟨mput a0.iS a1 a2⟩:jX)) (ga.1,ga.2) haa (pm 5 [1,2,0,3,4])) fun _ _=>?_
 cases H.out; exact et () 4 [1,2,3,0] 3
theorem ql.c (h:ql.f a0=some r):Pt prog 101 [agg (ak.enc a0)] (agg (bB.enc r)):=by
 refine pf func101 h fun R0 F H=>?_
 refine wr 2 3<|Dv.box Q T Q cA nofun fun ba=>al Q T zc89 nofun fun bc=>.fin<|wr 10 512<|gl 8 [1,1,1,1]<|Dv.lI (qs:=[vS a0.aa,vS a0.ai,vS a0.ae,vB a0.ao]) (css:=[[vS a0.aa],[vS a0.ai],[vS a0.ae],[vB a0.ao]]) Q T FM Hy z89 Q ⟨(cells_one (ah Q)),⟨(cells_one (ah Q)),⟨(cells_one (ah Q)),⟨(cells_one (ah Q)),T⟩⟩⟩⟩ Q Q<|sy 0 ?_
 refine .fin ?_
 cases H.out; exact r2 i2 Q (.cons (au Q FM Q J0 (ab 0 Q) Q) .nil)
theorem ir.c {p0_ p1_:OV} (h:ir.f k a0 a1 a2=some r):Tr prog 39 [eq p0_.1,eq p1_.1,agg (ak.enc a2)] [kb.O p0_ a0,aO.O p1_ a1] (γ:=Unit) (fun _=>True) (fun g=>lr [vB r.1,vI r.2.1]) (fun g=>[kb.O p0_ r.2.2,aO.O p1_ a1]):=by
 refine tf func39 h fun R0 F H=>?_
 refine wr 3 1<|Dv.box Q T Q cA nofun fun ba=>go 2<|WP.seq<|wr 8 0<|lx 4 [0] ?_
 cases cc:(a2.aH != 1)
 rotate_left
 ·
  have H:=H.ct cc
  refine go 4<|WP.cond Q (fun _=>?_) nofun
  refine sp ?_
  cases H.out; exact et () 3 [0,1,2] 1
 have H:=H.cf cc
 refine gl 1 [0]<|el H fun ta haa H=>Dv.call Q (gg Q) (cL 96) Q (eP.c haa)<|go 2<|ce H ?_ ?_ <;> intro H
 ·
  refine sp ?_
  cases H.out; exact et () 3 [0,1,2] 1
 refine WP.skip<|WP.seq<|wr 9 0<|gl 7 [0,0,0]<|vg (aO.iU 2 Q) fun ga hac=>?_
 refine el H fun tc had H=>oU 4 [0,1,2,3] (cL 97) (Tr.jZ (jg.c had (b0_:=ga.1) (v0_0:=ga.2)) (.cons (iM hac) (.cons cK (.cons cK (.cons cK .nil))))) ?_
 refine go 1<|so<|WP.block<|so<|ce H ?_ ?_ <;> intro H
 ·
  refine WP.seq<|wg (kb.iU 3 Q) fun gb hae=>?_
  refine dg mX 6 32<|go 1<|Dv.bW hae Q T Q<|fp hae Q T Q Jp<|gl 2 [0,5]<|el H fun te haf H=>cx 6 [2,0,1,3,4,5] (cL 98) (jQ.c haf (p0_:=gb.2.2)) pC fun _ _=>?_
  refine .fin<|so<|wg (aO.shut (p:=p1_) (m:=a1) (ga.1,ga.2) hac (pm 6 [3,4,0,1,2,5])) fun _ _=>?_
  refine wg (kb.shut (p:=p0_) (m:=(⟨a0.qv,te.2.2⟩:kb)) (gb.1,gb.2.1,gb.2.2) hae (pm 5 [2,3,1,0,4])) fun _ _=>?_
  cases H.out; exact et () 3 [2,0,1] 1
 refine so<|cf H ?_ ?_ <;> intro H
 ·
  refine so<|wg (aO.shut (p:=p1_) (m:=a1) (ga.1,ga.2) hac (pm 4 [0,1,2,3])) fun _ _=>?_
  cases H.out; exact et () 3 [1,2,0] 1
 refine WP.skip<|wr 12 1536<|gl 5 [2,2]<|el H fun tg hag H=>oU 4 [0,1,2,3] (cL 99) (Tr.jZ (fH.c hag (b0_:=ga.1) (v0_0:=ga.2)) (.cons (iM hac) (.cons cK (.cons cK .nil)))) ?_
 refine go 1<|eh Q T Q Q<|eh Q T Q Q<|al Q T tP nofun fun bc=>sy 0 ?_
 refine go 1<|WP.seq<|wg (kb.iU 4 Q) fun gi hah=>?_
 refine dg mX 10 128<|go 1<|Dv.bW hah Q T Q<|fp hah Q T Q Dd<|gl 2 [0,6]<|el H fun tj hai H=>cl Q (cL 101) Q (ql.c hai)<|gl 1 [3]<|el H fun tm haj H=>cx 7 [1,0,2,3,4,5,6] (cL 100) (gA.c haj (p0_:=gi.2.1)) pC fun _ _=>?_
 refine go 2<|wg (aO.shut (p:=p1_) (m:=a1) (ga.1,ga.2) hac (pm 7 [4,5,0,1,2,3,6])) fun _ _=>?_
 refine wg (kb.shut (p:=p0_) (m:=(⟨tm.2,a0.qF⟩:kb)) (gi.1,gi.2.1,gi.2.2) hah (pm 6 [2,1,3,0,4,5])) fun _ _=>?_
 cases H.out; exact et () 4 [2,3,0,1] 2
theorem strings_Join.c {xs:List BA} {sep r:BA} (h:strings_Join.f xs sep=some r):Tr prog 102 [sl aE xs,vS sep] [lax] (γ:=Unit) (fun _=>True) (fun _=>vS r) (fun _=>[lax]):=Tr.Ej fun R F w us hu hs=>by
  obtain ⟨⟨h1,h2⟩,H⟩:=aW.an (aW.of h)
  obtain rfl:=aW.out H
  cases hu with
  | cons ha hu=>cases hu with
    | cons hb hu=>
      cases hu
      simp only [eg] at hb
      subst hb
      rcases BE ha hs with ⟨a,c,rfl,rfl⟩ | ⟨b,off,c,rfl,hl,hlt,hc⟩
      · exact ⟨_,Q,(Tryz.strings_Join_none a c sep w).mono fun e w' ⟨he,hw⟩=>⟨he,hw ▸ Go.RowKit.Below.refl _ _⟩⟩
      · exact ⟨_,Q,Tryz.strings_Join b off c xs sep w hc hlt h1 hl h2⟩
theorem iC.c (h:iC.f a0=some r):Tr prog 41 [agg (bB.enc a0)] [lax] (γ:=Unit) (fun _=>True) (fun g=>vS r) (fun g=>[lax]):=by
 refine tf func41 h fun R0 F H=>?_
 refine wr 2 1<|Dv.box Q T Q cA nofun fun ba=>go 1<|so<|WP.seq<|sL [0]<|cf H ?_ ?_ <;> intro H
 ·
  refine WP.skip<|wr 10 0<|gl 7 [0,0,0]<|Dv.lit aE ([(⟨#[109]⟩:BA),a0.aa,a0.ai,a0.ae,(⟨#[48]⟩:BA)]:List BA) (css:=[[vS (⟨#[109]⟩:BA)],[vS a0.aa],[vS a0.ai],[vS a0.ae],[vS (⟨#[48]⟩:BA)]]) Q T eb W9 c9 z9 Q dc dc Q ⟨(cells_one (ah Q)),⟨(cells_one (ah Q)),⟨(cells_one (ah Q)),⟨(cells_one (ah Q)),⟨(cells_one (ah Q)),T⟩⟩⟩⟩⟩ Q Q Q<|el H fun ta haa H=>oU 2 [1,0] (cL 102) (strings_Join.c haa) ?_
  refine gq 1 ?_
  cases H.out; exact et () 2 [0,1] 1
 refine rg 1 0<|go 1<|wr 10 0<|gl 7 [0,0,0]<|Dv.lit aE ([(⟨#[109]⟩:BA),a0.aa,a0.ai,a0.ae,(⟨#[49]⟩:BA)]:List BA) (css:=[[vS (⟨#[109]⟩:BA)],[vS a0.aa],[vS a0.ai],[vS a0.ae],[vS (⟨#[49]⟩:BA)]]) Q T eb W9 c9 z9 Q dc dc Q ⟨(cells_one (ah Q)),⟨(cells_one (ah Q)),⟨(cells_one (ah Q)),⟨(cells_one (ah Q)),⟨(cells_one (ah Q)),T⟩⟩⟩⟩⟩ Q Q Q<|el H fun tc hac H=>oU 2 [1,0] (cL 102) (strings_Join.c hac) ?_
 refine gq 1 ?_
 cases H.out; exact et () 2 [0,1] 1
theorem mH.c (h:mH.f k a0=some r):Pt prog 103 [agg (ak.enc a0)] (vB r):=by
 refine pf func103 h fun R0 F H=>?_
 refine wr 2 1<|Dv.box Q T Q cA nofun fun ba=>go 1<|wr 3 0<|gl 1 [0]<|el H fun ta haa H=>cl Q (cL 92) Q (fY.c haa)<|go 1<|wr 7 0<|gp 2 ?_
 cases cc:ta
 ·
  have H:=H.cf cc
  refine gq 5 ?_
  cases H.out; exact ek 1
 have H:=H.ct cc
 refine Hf 5 [0] ?_
 cases H.out; exact ek 1
theorem cT.c:∀ (k:Nat) {a0:Int} {r:(List Int)} (h:cT.f k a0=some r),Tr prog 229 [vI a0] [] (γ:=OV) (fun _=>True) (fun g=>eq g.1) (fun g=>[own (bG .u8) g.1 r])
  | 0,_,_,h=>by cases h
  | k+1,a0,r,h=>by
    rw [cT.f] at h
    refine tb func229 ntmps229 h fun R0 F H=>?_
    refine so<|sq H id [] (fun pa=>[(0,vI pa)]) (fun _=>[]) (fun pa H=>?_) (fun H=>?_)
    rotate_left
    ·
     refine so<|cf H ?_ ?_ <;> intro H
     ·
      refine WP.skip ?_
      have H:=H.out
      exact jn a0 H
     refine rg 1 0<|gq 1 ?_
     have H:=H.out
     exact jn 0 H
    refine WP.seq<|so<|ce H ?_ ?_ <;> intro H
    ·
     refine wr 4 4<|go 1<|Dv.H4 Q T Q W3 W5<|Dv.lito (bG .u8) ([IntKind.u8.wrap (pa)]:List Int) (css:=[[eq (.int .u8 (IntKind.u8.wrap (pa)))]]) Q T jy W5 c5 z5 Q dc dc Q ⟨(cells_one (ah Q)),T⟩ Q Q Q nofun (fun va=>?_)
     refine gq 1 ?_
     cases H.out; exact et va 1 [0] 0
    refine WP.skip<|wr 6 16<|go 1<|nQ Q Q Q (qG dc)<|go 1<|Dv.H4 Q T Q W3 W5<|Dv.lito (bG .u8) ([IntKind.u8.wrap (av (128+(pa.tmod 128)))]:List Int) (css:=[[eq (.int .u8 (IntKind.u8.wrap (av (128+(pa.tmod 128)))))]]) Q T jy W5 c5 z5 Q dc dc Q ⟨(cells_one (ah Q)),T⟩ Q Q Q nofun (fun vb=>?_)
    refine go 1<|wr 6 24<|go 2<|nQ Q Q Q (n9 dc)<|el H fun ta haa H=>cx 1 [0] (cL 229) (cT.c k haa) nofun fun ga _=>?_
    refine gr H fun gb H=>ap (bG .u8) 1 ta (nt (ab 0 Q)) jy (.inr ⟨_,jy⟩) se gb nofun fun vd=>?_
    refine gq 1 ?_
    cases H.out; exact et vd 2 [0,1] 1
theorem jM.c (h:jM.f k a0=some r):Tr prog 230 [vS a0] [] (γ:=OV) (fun _=>True) (fun g=>eq g.1) (fun g=>[own (bG .u8) g.1 r]):=by
 refine tf func230 h fun R0 F H=>?_
 refine so<|wr 6 20<|go 1<|Dv.lens Q T Q W9<|el H fun ta haa H=>cx 0 [] (cL 229) (cT.c _ haa) nofun fun ga _=>?_
 refine go 1<|gr H fun gb H=>ap (bG .u8) 0 (mM a0) C0 jy (.inl W9) se gb nofun fun va=>?_
 refine gq 1 ?_
 cases H.out; exact et va 1 [0] 0
theorem pX.c (h:pX.f a0=some r):Pt prog 231 [vB a0] (sl (bG .u8) r):=by
 refine pf func231 h fun R0 F H=>?_
 refine so<|WP.seq<|so<|ce H ?_ ?_ <;> intro H
 ·
  refine wr 2 0<|Dv.lit (bG .u8) ([1]:List Int) (css:=[[eq (.int .u8 1)]]) Q T jy W5 c5 z5 Q dc dc Q ⟨(cells_one (ah Q)),T⟩ Q Q Q<|gq 1 ?_
  cases H.out; exact ek 0
 refine WP.skip<|wr 2 0<|Dv.lit (bG .u8) ([0]:List Int) (css:=[[eq (.int .u8 0)]]) Q T jy W5 c5 z5 Q dc dc Q ⟨(cells_one (ah Q)),T⟩ Q Q Q<|gq 1 ?_
 cases H.out; exact ek 0
theorem lB.c (h:lB.f k a0=some r):Tr prog 165 [agg (ak.enc a0)] [] (γ:=OV) (fun _=>True) (fun g=>eq g.1) (fun g=>[own (bG .u8) g.1 r]):=by
 refine tf func165 h fun R0 F H=>?_
 refine wr 2 1<|Dv.box Q T Q cA nofun fun ba=>go 1<|wr 4 4<|gl 2 [0]<|el H fun ta haa H=>cx 1 [0] (cL 229) (cT.c _ haa) nofun fun ga _=>?_
 refine go 1<|wr 6 24<|gl 3 [1]<|el H fun tc hac H=>cx 2 [0,1] (cL 230) (jM.c hac) nofun fun gb _=>?_
 refine gr H fun gi H=>ap (bG .u8) 1 tc (nt (ab 0 Q)) jy (.inr ⟨_,jy⟩) se gi nofun fun va=>?_
 refine go 1<|wr 6 24<|gl 3 [2]<|el H fun te had H=>cx 3 [0,1,2] (cL 230) (jM.c had) nofun fun gj _=>?_
 refine gr H fun gk H=>ap (bG .u8) 2 te (nt (ab 0 Q)) jy (.inr ⟨_,jy⟩) se gk nofun fun vb=>?_
 refine go 1<|wr 6 24<|gl 3 [3]<|el H fun tg hae H=>cx 4 [0,1,2,3] (cL 230) (jM.c hae) nofun fun gm _=>?_
 refine gr H fun gn H=>ap (bG .u8) 3 tg (nt (ab 0 Q)) jy (.inr ⟨_,jy⟩) se gn nofun fun vd=>?_
 refine go 1<|wr 6 24<|gl 3 [4]<|el H fun tj haf H=>cx 5 [0,1,2,3,4] (cL 230) (jM.c haf) nofun fun gu _=>?_
 refine gr H fun gv H=>ap (bG .u8) 4 tj (nt (ab 0 Q)) jy (.inr ⟨_,jy⟩) se gv nofun fun ve=>?_
 refine go 1<|wr 6 16<|gl 3 [5]<|el H fun tm hag H=>cl Q (cL 231) Q (pX.c hag)<|gr H fun gw H=>ap (bG .u8) 4 tm bQ jy (.inr ⟨_,jy⟩) se gw nofun fun vh=>?_
 refine go 1<|wr 6 24<|gl 3 [5]<|el H fun tn hah H=>cx 6 [0,1,2,3,4,5] (cL 229) (cT.c _ hah) nofun fun gy _=>?_
 refine gr H fun gz H=>ap (bG .u8) 5 tn (nt (ab 0 Q)) jy (.inr ⟨_,jy⟩) se gz nofun fun vi=>?_
 refine go 1<|wr 6 24<|gl 3 [6]<|el H fun tp hai H=>cx 7 [0,1,2,3,4,5,6] (cL 229) (cT.c _ hai) nofun fun gaa _=>?_
 refine gr H fun gab H=>ap (bG .u8) 6 tp (nt (ab 0 Q)) jy (.inr ⟨_,jy⟩) se gab nofun fun vj=>?_
 refine go 1<|wr 6 24<|gl 3 [7]<|el H fun tq haj H=>cx 8 [0,1,2,3,4,5,6,7] (cL 229) (cT.c _ haj) nofun fun gac _=>?_
 refine gr H fun gad H=>ap (bG .u8) 7 tq (nt (ab 0 Q)) jy (.inr ⟨_,jy⟩) se gad nofun fun vk=>?_
 refine go 1<|wr 6 24<|gl 3 [8]<|el H fun tu hak H=>cx 9 [0,1,2,3,4,5,6,7,8] (cL 229) (cT.c _ hak) nofun fun gae _=>?_
 refine gr H fun gaf H=>ap (bG .u8) 8 tu (nt (ab 0 Q)) jy (.inr ⟨_,jy⟩) se gaf nofun fun vl=>?_
 refine gq 1 ?_
 cases H.out; exact et vl 10 [0,1,2,3,4,5,6,7,9,8] 9
theorem jl.c (h:jl.f k a0 a1=some r):Pt prog 104 [agg (ak.enc a0),agg (ak.enc a1)] (vI r):=by
 refine pf func104 h fun R0 F H=>?_
 refine wr 3 3<|Dv.box Q T Q cA nofun fun ba=>Dv.box Q T Q cA nofun fun bc=>go 1<|WP.seq<|sL [1,0]<|ce H ?_ ?_ <;> intro H
 ·
  refine sp ?_
  cases H.out; exact ek 2
 refine WP.skip<|WP.seq<|sL [1,0]<|ce H ?_ ?_ <;> intro H
 ·
  refine sp ?_
  cases H.out; exact ek 2
 refine WP.skip<|wr 4 2<|gl 1 [1]<|el H fun ta haa H=>cx 2 [0,1] (cL 165) (lB.c haa) nofun fun ga _=>?_
 refine Dv.gh (oi (E':=[(0,agg (ak.enc a0)),(1,agg (ak.enc a1)),(2,eW ba),(3,eW bc),(4,vI 0),(11,vB (decide (a0.bf<a1.bf))),(16,vB (decide (a1.bf<a0.bf))),(18,sl (bG .u8) ta)]) (l':=[aJ bc 52 (ak.enc a1),aJ ba 52 (ak.enc a0)]++F) 0 Q (ar Q ay (ar Q ay (ar Q ay (ar Q ay (ar Q ay (ar Q ay (ar Q ay (ar Q kJ jG)))))))) (gL (.cons bU (.cons bU .nil)) fun _=>bU)) (fun _ _=>?_)
 refine Dv.KO Q T Q jy W5 W9<|go 1<|wr 4 2<|gl 1 [0]<|el H fun tc hac H=>cx 2 [0,1] (cL 165) (lB.c hac) nofun fun gb _=>?_
 refine Dv.gh (oi (E':=[(0,agg (ak.enc a0)),(1,agg (ak.enc a1)),(2,eW ba),(3,eW bc),(4,vI 0),(5,vS (gI ta)),(11,vB (decide (a0.bf<a1.bf))),(16,vB (decide (a1.bf<a0.bf))),(21,sl (bG .u8) tc)]) (l':=[aJ bc 52 (ak.enc a1),aJ ba 52 (ak.enc a0)]++F) 0 Q (ar Q ay (ar Q ay (ar Q ay (ar Q ay (ar Q ay (ar Q ay (ar Q ay (ar Q ay (ar Q kJ jG))))))))) (gL (.cons bU (.cons bU .nil)) fun _=>bU)) (fun _ _=>?_)
 refine Dv.KO Q T Q jy W5 W9<|go 1<|WP.seq<|so<|ce H ?_ ?_ <;> intro H
 ·
  refine sp ?_
  cases H.out; exact ek 2
 refine WP.skip<|WP.seq<|so<|ce H ?_ ?_ <;> intro H
 ·
  refine sp ?_
  cases H.out; exact ek 2
 refine WP.skip<|sp ?_
 cases H.out; exact ek 2
theorem cR.c (h:cR.f k a0 a1=some r):Pt prog 42 [agg (kX.enc a0),agg (ak.enc a1)] (lr [agg (kX.enc r.1),vB r.2.1,vI r.2.2]):=by
 refine pf func42 h fun R0 F H=>?_
 refine wr 5 7<|Dv.box Q T Q cA nofun fun ba=>Dv.box Q T Q cA nofun fun bc=>al Q T K8 nofun fun bd=>go 2<|wr 3 0<|gl 1 [1]<|el H fun ta haa H=>cl Q (cL 103) Q (mH.c haa)<|go 1<|WP.seq<|wr 7 0<|lx 4 [1] ?_
 cases cc:(a1.aH != 2)
 rotate_left
 ·
  have H:=H.ct cc
  refine go 3<|WP.cond Q (fun _=>?_) nofun
  refine wr 4 2<|gl 1 [2]<|sy 0 ?_
  refine gq 2 ?_
  cases H.out; exact r3 i2 Q (.cons (au Q W37 Q c37 (ab 0 Q) Q) (.cons (aF Q) (.cons (aF Q) .nil)))
 have H:=H.cf cc
 refine go 3<|ce H ?_ ?_ <;> intro H
 ·
  refine wr 4 2<|gl 1 [2]<|sy 0 ?_
  refine gq 2 ?_
  cases H.out; exact r3 i2 Q (.cons (au Q W37 Q c37 (ab 0 Q) Q) (.cons (aF Q) (.cons (aF Q) .nil)))
 refine WP.skip<|wr 1 1<|al Q T K8 nofun fun be=>.fin<|so<|WP.zf H (fun qh:(Bool×Int×Bool×(List ak)×(List Bool))×OV×OV=>qh.1) (fun qh=>[(3,eW bc),(4,eW bd),(8,eW be),(9,vB qh.1.1)]) (fun qh=>[aJ be 37 [eq qh.2.1.1,eq qh.2.2.1],aJ bd 37 [eU,eU],aJ bc 52 (ak.enc a1),aJ ba 37 (kX.enc a0),own ak.K qh.2.1.1 qh.1.2.2.2.1,own dp qh.2.2.1 qh.1.2.2.2.2]++F) (fun qh H=>?_) (fun H=>?_)
 ·
  obtain ⟨pa,va,vb⟩:=qh
  refine WP.seq<|so<|cf H ?_ ?_ <;> intro H
  ·
   refine WP.skip<|wr 4 2<|gl 1 [0]<|sy 1 ?_
   refine go 2<|fz 4 [4,5,6] [1,1] ?_
   refine fz 4 [4,5,6] [1,1] ?_
   cases H.out; exact r4 i2 Q (.cons (au Q W37 Q c37 (ab 1 Q) Q) (.cons (aF Q) (.cons (aF Q) .nil)))
  refine wr 7 80<|gl 3 [0,2]<|Dv.lit ak.K ([a1]:List ak) (css:=[ak.enc a1]) Q T fS iB jh uQ Q dc dc Q ⟨(aZ (ak.K.one _)),T⟩ Q Q Q<|gr H fun ga H=>ap ak.K 4 ([a1]:List ak) bQ fS (.inr ⟨_,fS⟩) nI ga nofun fun vd=>?_
  refine go 1<|sx 0 Q T Q Q (cells_one bL) rT Q Q Q nofun ?_
  refine .fin<|rg 6 40<|gl 2 [0]<|Dv.lit dp ([false]:List Bool) (css:=[[vB false]]) Q T sW W4 c4 z4 Q dc dc Q ⟨(cells_one (ah Q)),T⟩ Q Q Q<|gr H fun gb H=>ap dp 5 ([false]:List Bool) bQ sW (.inr ⟨_,sW⟩) zo gb nofun fun ve=>?_
  refine go 1<|sx 0 Q T Q Q (cells_one bL) A7 Q Q Q nofun ?_
  refine .fin<|wr 4 2<|gl 1 [0]<|sy 1 ?_
  refine go 2<|fz 4 [4,5,6] [1,1] ?_
  refine fz 4 [4,5,6] [1,1] ?_
  cases H.out; exact r4 i2 Q (.cons (au Q W37 Q c37 (ab 1 Q) Q) (.cons (aF Q) (.cons (aF Q) .nil)))
 refine so<|WP.block<|wg (eK ak.K none) fun _ _=>?_
 refine wg (eK dp none) fun _ _=>?_
 refine ws 6 [2,3,4,5,1,0] 0 ?_
 refine lq (fun j_ (pc:Bool×Int×(List ak)×(List Bool)×OV×OV)=>cR.l0 k a0 a1 j_ pc.1 pc.2.1 pc.2.2.1 pc.2.2.2.1) (false,0,([]:List ak),([]:List Bool),lM,FU) H [2,3,4,8] (fun pc=>[(9,vB pc.1),(10,vI pc.2.1)]) (fun pc=>[(0,aJ be 37 [eq pc.2.2.2.2.1.1,eq pc.2.2.2.2.2.1]),(4,own ak.K pc.2.2.2.2.1.1 pc.2.2.1),(5,own dp pc.2.2.2.2.2.1 pc.2.2.2.1)]) ?_
 rintro j_ ⟨xc,xd,xe,xf,vh,vi⟩ H
 rcases j_ with _ | ja
 ·
  exact (aW.no H).elim
 try dsimp only at H
 rw [cR.l0] at H
 refine WP.seq<|wr 5 0<|gl 3 [3]<|Dv.eX Q T Q fS<|go 1<|cf H ?_ ?_ <;> intro H
 ·
  refine WP.exit ?_
  have H:=H.out
  exact jn ((xc,xd,decide (xd<(a0.fL.length:Int)),xe,xf),vh,vi) H
 refine WP.skip<|WP.seq<|WP.block<|wr 7 96<|gl 3 [3]<|gr H fun gi H=>Dv.jA Q T Q Q fS iB jh gi.1 gi.2<|ll Q T Q wj Q<|al Q T vQ nofun fun bg=>sy 0 ?_
 refine .fin<|WP.seq<|wr 12 0<|lx 6 [0,3] ?_
 cases cg:decide (((ak.K.at a0.fL xd).aa)=a1.aa)
 ·
  have H:=H.cf cg
  refine go 6<|WP.cond Q nofun (fun _=>?_)
  refine WP.skip<|WP.lG H (fun qi:(Bool×Bool×(List ak)×(List Bool))×OV×OV=>qi.1) (fun qi=>[(2,eW ba),(3,eW bc),(4,eW bd),(8,eW be),(9,vB qi.1.1),(10,vI xd),(11,eW bg)]) (fun qi=>[aJ bg 52 (ak.enc (ak.K.at a0.fL xd)),aJ be 37 [eq qi.2.1.1,eq qi.2.2.1],aJ bd 37 [eU,eU],aJ bc 52 (ak.enc a1),aJ ba 37 (kX.enc a0),own ak.K qi.2.1.1 qi.1.2.2.1,own dp qi.2.2.1 qi.1.2.2.2]++F) (fun qi H=>?_) (fun H=>?_)
  ·
   obtain ⟨pe,vj,vk⟩:=qi
   refine wr 7 80<|gl 3 [1,0]<|Dv.lit ak.K ([ak.K.at a0.fL xd]:List ak) (css:=[ak.enc (ak.K.at a0.fL xd)]) Q T fS iB jh uQ Q dc dc Q ⟨(aZ (ak.K.one _)),T⟩ Q Q Q<|gr H fun gj H=>ap ak.K 5 ([ak.K.at a0.fL xd]:List ak) bQ fS (.inr ⟨_,fS⟩) nI gj nofun fun vl=>?_
   refine go 1<|sx 1 Q T Q Q (cells_one bL) rT Q Q Q nofun ?_
   refine .fin<|dg mX 11 1280<|gl 5 [1,4]<|gr H fun gk H=>Dv.jA Q T Q Q sW W4 c4 gk.1 gk.2<|mL Q T Q sc4 Q<|Dv.lit dp ([dp.at a0.fx xd]:List Bool) (css:=[[vB (dp.at a0.fx xd)]]) Q T sW W4 c4 z4 Q dc dc Q ⟨(cells_one (ah Q)),T⟩ Q Q Q<|gr H fun gm H=>ap dp 6 ([dp.at a0.fx xd]:List Bool) bQ sW (.inr ⟨_,sW⟩) zo gm pB fun vm=>?_
   refine go 1<|sx 1 Q T Q Q (cells_one bL) A7 Q Q Q pB ?_
   refine .fin<|rg 3 0<|go 3<|ns 7 [0,1,2,3,4,5,6] 1 ?_
   exact bk ja (pe.1,av (xd+1),pe.2.2.1++([ak.K.at a0.fL xd]:List ak),pe.2.2.2++([dp.at a0.fx xd]:List Bool),vl,vm) H
  refine wr 23 0<|gp 3 ?_
  cases ci:!xc
  ·
   have H:=H.cf ci
   refine go 20<|WP.cond Q nofun (fun _=>?_)
   refine WP.skip ?_
   have H:=H.out
   exact jn ((xc,false,xe,xf),vh,vi) H
  have H:=H.ct ci
  refine lx 6 [3,0] ?_
  cases cj:dI a1.aa ((ak.K.at a0.fL xd).aa)
  rotate_left
  ·
   have H:=H.ct cj
   refine go 14<|WP.cond Q (fun _=>?_) nofun
   refine wr 7 80<|gl 3 [1,3]<|Dv.lit ak.K ([a1]:List ak) (css:=[ak.enc a1]) Q T fS iB jh uQ Q dc dc Q ⟨(aZ (ak.K.one _)),T⟩ Q Q Q<|gr H fun gn H=>ap ak.K 5 ([a1]:List ak) bQ fS (.inr ⟨_,fS⟩) nI gn nofun fun vn=>?_
   refine go 1<|sx 1 Q T Q Q (cells_one bL) rT Q Q Q nofun ?_
   refine .fin<|wr 6 40<|gl 2 [1]<|Dv.lit dp ([false]:List Bool) (css:=[[vB false]]) Q T sW W4 c4 z4 Q dc dc Q ⟨(cells_one (ah Q)),T⟩ Q Q Q<|gr H fun gu H=>ap dp 6 ([false]:List Bool) bQ sW (.inr ⟨_,sW⟩) zo gu nofun fun vo=>?_
   refine go 1<|sx 1 Q T Q Q (cells_one bL) A7 Q Q Q nofun ?_
   refine .fin<|rg 1 0<|gq 1 ?_
   have H:=H.out
   exact jn ((true,true,xe++([a1]:List ak),xf++([false]:List Bool)),vn,vo) H
  have H:=H.cf cj
  refine lx 6 [3,0] ?_
  cases ck:decide (a1.aa=((ak.K.at a0.fL xd).aa))
  ·
   have H:=H.cf ck
   refine go 8<|WP.cond Q nofun (fun _=>?_)
   refine WP.skip ?_
   have H:=H.out
   exact jn ((xc,false,xe,xf),vh,vi) H
  have H:=H.ct ck
  refine gl 8 [3,0]<|cf H ?_ ?_ <;> intro H
  ·
   refine WP.skip ?_
   have H:=H.out
   exact jn ((xc,dI a1.ai ((ak.K.at a0.fL xd).ai),xe,xf),vh,vi) H
  refine wr 7 80<|gl 3 [1,3]<|Dv.lit ak.K ([a1]:List ak) (css:=[ak.enc a1]) Q T fS iB jh uQ Q dc dc Q ⟨(aZ (ak.K.one _)),T⟩ Q Q Q<|gr H fun gv H=>ap ak.K 5 ([a1]:List ak) bQ fS (.inr ⟨_,fS⟩) nI gv nofun fun vq=>?_
  refine go 1<|sx 1 Q T Q Q (cells_one bL) rT Q Q Q nofun ?_
  refine .fin<|wr 6 40<|gl 2 [1]<|Dv.lit dp ([false]:List Bool) (css:=[[vB false]]) Q T sW W4 c4 z4 Q dc dc Q ⟨(cells_one (ah Q)),T⟩ Q Q Q<|gr H fun gw H=>ap dp 6 ([false]:List Bool) bQ sW (.inr ⟨_,sW⟩) zo gw nofun fun vr=>?_
  refine go 1<|sx 1 Q T Q Q (cells_one bL) A7 Q Q Q nofun ?_
  refine .fin<|rg 1 0<|gq 1 ?_
  have H:=H.out
  exact jn ((true,dI a1.ai ((ak.K.at a0.fL xd).ai),xe++([a1]:List ak),xf++([false]:List Bool)),vq,vr) H
 have H:=H.ct cg
 refine gl 6 [0,3]<|ce H ?_ ?_ <;> intro H
 ·
  refine WP.seq<|wr 4 0<|gl 2 [3,0]<|el H fun tc hac H=>cl Q (cL 104) Q (jl.c hac)<|go 1<|cf H ?_ ?_ <;> intro H
  ·
   refine WP.skip<|WP.exit<|rg 3 0<|go 3<|ns 7 [0,1,2,3,4,5,6] 1 ?_
   exact bk ja (xc,av (xd+1),xe,xf,vh,vi) H
  refine wr 4 2<|gl 1 [4]<|sy 2 ?_
  refine gq 2 ?_
  have H:=H.fU
  cases H.out; exact rt i2 Q () 7 [0,1,2,3,4,5,6] 7 (.cons (au Q W37 Q c37 (ab 2 Q) Q) (.cons (aF Q) (.cons (aF Q) .nil)))
 refine WP.skip<|WP.lG H (fun qj:(Bool×Bool×(List ak)×(List Bool))×OV×OV=>qj.1) (fun qj=>[(2,eW ba),(3,eW bc),(4,eW bd),(8,eW be),(9,vB qj.1.1),(10,vI xd),(11,eW bg)]) (fun qj=>[aJ bg 52 (ak.enc (ak.K.at a0.fL xd)),aJ be 37 [eq qj.2.1.1,eq qj.2.2.1],aJ bd 37 [eU,eU],aJ bc 52 (ak.enc a1),aJ ba 37 (kX.enc a0),own ak.K qj.2.1.1 qj.1.2.2.1,own dp qj.2.2.1 qj.1.2.2.2]++F) (fun qj H=>?_) (fun H=>?_)
 ·
  obtain ⟨pg,vt,vu⟩:=qj
  refine wr 7 80<|gl 3 [1,0]<|Dv.lit ak.K ([ak.K.at a0.fL xd]:List ak) (css:=[ak.enc (ak.K.at a0.fL xd)]) Q T fS iB jh uQ Q dc dc Q ⟨(aZ (ak.K.one _)),T⟩ Q Q Q<|gr H fun gy H=>ap ak.K 5 ([ak.K.at a0.fL xd]:List ak) bQ fS (.inr ⟨_,fS⟩) nI gy nofun fun vv=>?_
  refine go 1<|sx 1 Q T Q Q (cells_one bL) rT Q Q Q nofun ?_
  refine .fin<|dg mX 11 1280<|gl 5 [1,4]<|gr H fun gz H=>Dv.jA Q T Q Q sW W4 c4 gz.1 gz.2<|mL Q T Q sc4 Q<|Dv.lit dp ([dp.at a0.fx xd]:List Bool) (css:=[[vB (dp.at a0.fx xd)]]) Q T sW W4 c4 z4 Q dc dc Q ⟨(cells_one (ah Q)),T⟩ Q Q Q<|gr H fun gaa H=>ap dp 6 ([dp.at a0.fx xd]:List Bool) bQ sW (.inr ⟨_,sW⟩) zo gaa pB fun vx=>?_
  refine go 1<|sx 1 Q T Q Q (cells_one bL) A7 Q Q Q pB ?_
  refine .fin<|rg 3 0<|go 3<|ns 7 [0,1,2,3,4,5,6] 1 ?_
  exact bk ja (pg.1,av (xd+1),pg.2.2.1++([ak.K.at a0.fL xd]:List ak),pg.2.2.2++([dp.at a0.fx xd]:List Bool),vv,vx) H
 refine wr 23 0<|gp 3 ?_
 cases cn:!xc
 ·
  have H:=H.cf cn
  refine go 20<|WP.cond Q nofun (fun _=>?_)
  refine WP.skip ?_
  have H:=H.out
  exact jn ((xc,false,xe,xf),vh,vi) H
 have H:=H.ct cn
 refine lx 6 [3,0] ?_
 cases co:dI a1.aa ((ak.K.at a0.fL xd).aa)
 rotate_left
 ·
  have H:=H.ct co
  refine go 14<|WP.cond Q (fun _=>?_) nofun
  refine wr 7 80<|gl 3 [1,3]<|Dv.lit ak.K ([a1]:List ak) (css:=[ak.enc a1]) Q T fS iB jh uQ Q dc dc Q ⟨(aZ (ak.K.one _)),T⟩ Q Q Q<|gr H fun gab H=>ap ak.K 5 ([a1]:List ak) bQ fS (.inr ⟨_,fS⟩) nI gab nofun fun vy=>?_
  refine go 1<|sx 1 Q T Q Q (cells_one bL) rT Q Q Q nofun ?_
  refine .fin<|wr 6 40<|gl 2 [1]<|Dv.lit dp ([false]:List Bool) (css:=[[vB false]]) Q T sW W4 c4 z4 Q dc dc Q ⟨(cells_one (ah Q)),T⟩ Q Q Q<|gr H fun gac H=>ap dp 6 ([false]:List Bool) bQ sW (.inr ⟨_,sW⟩) zo gac nofun fun vz=>?_
  refine go 1<|sx 1 Q T Q Q (cells_one bL) A7 Q Q Q nofun ?_
  refine .fin<|rg 1 0<|gq 1 ?_
  have H:=H.out
  exact jn ((true,true,xe++([a1]:List ak),xf++([false]:List Bool)),vy,vz) H
 have H:=H.cf co
 refine lx 6 [3,0] ?_
 cases cp:decide (a1.aa=((ak.K.at a0.fL xd).aa))
 ·
  have H:=H.cf cp
  refine go 8<|WP.cond Q nofun (fun _=>?_)
  refine WP.skip ?_
  have H:=H.out
  exact jn ((xc,false,xe,xf),vh,vi) H
 have H:=H.ct cp
 refine gl 8 [3,0]<|cf H ?_ ?_ <;> intro H
 ·
  refine WP.skip ?_
  have H:=H.out
  exact jn ((xc,dI a1.ai ((ak.K.at a0.fL xd).ai),xe,xf),vh,vi) H
 refine wr 7 80<|gl 3 [1,3]<|Dv.lit ak.K ([a1]:List ak) (css:=[ak.enc a1]) Q T fS iB jh uQ Q dc dc Q ⟨(aZ (ak.K.one _)),T⟩ Q Q Q<|gr H fun gad H=>ap ak.K 5 ([a1]:List ak) bQ fS (.inr ⟨_,fS⟩) nI gad nofun fun vaa=>?_
 refine go 1<|sx 1 Q T Q Q (cells_one bL) rT Q Q Q nofun ?_
 refine .fin<|wr 6 40<|gl 2 [1]<|Dv.lit dp ([false]:List Bool) (css:=[[vB false]]) Q T sW W4 c4 z4 Q dc dc Q ⟨(cells_one (ah Q)),T⟩ Q Q Q<|gr H fun gae H=>ap dp 6 ([false]:List Bool) bQ sW (.inr ⟨_,sW⟩) zo gae nofun fun vab=>?_
 refine go 1<|sx 1 Q T Q Q (cells_one bL) A7 Q Q Q nofun ?_
 refine .fin<|rg 1 0<|gq 1 ?_
 have H:=H.out
 exact jn ((true,dI a1.ai ((ak.K.at a0.fL xd).ai),xe++([a1]:List ak),xf++([false]:List Bool)),vaa,vab) H
theorem mD.c (h:mD.f k a0=some r):Pt prog 105 [agg (ak.enc a0)] (vB r):=by
 refine pf func105 h fun R0 F H=>?_
 refine wr 2 1<|Dv.box Q T Q cA nofun fun ba=>go 1<|wr 8 0<|gl 1 [0]<|el H fun ta haa H=>cl Q (cL 96) Q (eP.c haa)<|gp 1 ?_
 cases cc:ta
 ·
  have H:=H.cf cc
  refine gq 5 ?_
  cases H.out; exact ek 1
 have H:=H.ct cc
 refine Hf 5 [0] ?_
 cases H.out; exact ek 1
theorem slices_BinarySearchFunc_Edu_Edu.c (h:slices_BinarySearchFunc_Edu_Edu.f k a0 a1 a2=some r):Pt prog 166 [sl ak.K a0,agg (ak.enc a1),po a2] (lr [vI r.1,vB r.2]):=by
 refine pf func166 h fun R0 F H=>?_
 refine wr 3 1<|Dv.box Q T Q cA nofun fun ba=>go 2<|wr 3 0<|go 1<|Dv.eX Q T Q fS<|go 1<|so<|sq H id [0,2,4,8] (fun pa=>[(9,vI pa.1)]) (fun _=>[]) (fun pa H=>?_) (fun H=>?_)
 ·
  refine wd mX 16 0<|gp 5 ?_
  cases cc:decide (pa.1<(a0.length:Int))
  ·
   have H:=H.cf cc
   refine gq 11 ?_
   cases H.out; exact ek 1
  have H:=H.ct cc
  refine go 3<|gr H fun ga H=>Dv.jA Q (gg Q) Q Q fS iB jh ga.1 ga.2<|ll Q (gg Q) Q wj Q<|gl 1 [0]<|el H fun ta haa H=>Dv.rZ (ret:=vI ta) Q (gg Q) Q Q ⟨_,_,_,haa,Q,Q⟩<|gq 4 ?_
  cases H.out; exact ek 1
 refine WP.block<|ws 1 [0] 0 ?_
 refine lq (fun j_ (pc:Int×Int)=>slices_BinarySearchFunc_Edu_Edu.l0 k a0 a1 a2 j_ pc.1 pc.2) (0,(a0.length:Int)) H [0,2,4,8] (fun pc=>[(9,vI pc.1),(10,vI pc.2)]) (fun _=>[]) ?_
 rintro j_ ⟨xc,xd⟩ H
 rcases j_ with _ | ja
 ·
  exact (aW.no H).elim
 try dsimp only at H
 rw [slices_BinarySearchFunc_Edu_Edu.l0] at H
 refine WP.seq<|so<|cf H ?_ ?_ <;> intro H
 ·
  refine WP.exit ?_
  have H:=H.out
  exact jn (xc,xd,decide (xc<xd)) H
 refine WP.skip<|WP.block<|wr 7 0<|go 3<|Dv.H4 Q T Q W3 HI<|nQ Q Q Q (Ck dc)<|Dv.H4 Q T Q HI W3<|go 1<|wd mX 8 0<|go 3<|gr H fun gb H=>Dv.jA Q T Q Q fS iB jh gb.1 gb.2<|ll Q T Q wj Q<|gl 1 [0]<|el H fun tc hac H=>Dv.rZ (ret:=vI tc) Q T Q Q ⟨_,_,_,hac,Q,Q⟩<|go 1<|cf H ?_ ?_ <;> intro H
 ·
  exact rg 2 0<|go 2<|bk ja (xc,av ((IntKind.u64.wrap (av (xc+xd))).fdiv 2)) H
 exact rg 3 0<|go 3<|bk ja (av ((av ((IntKind.u64.wrap (av (xc+xd))).fdiv 2))+1),xd) H
theorem dV.c (h:dV.f k a0 a1=some r):Pt prog 167 [agg (ak.enc a0),agg (ak.enc a1)] (vI r):=by
 refine pf func167 h fun R0 F H=>?_
 refine wr 3 3<|Dv.box Q T Q cA nofun fun ba=>Dv.box Q T Q cA nofun fun bc=>go 1<|wd mX 13 0<|gl 4 [1,0]<|el H fun ta haa H=>cl Q (cL 65) Q (aC.c haa)<|gl 4 [1,0]<|el H fun tc hac H=>cl Q (cL 65) Q (aC.c hac)<|Dv.lit (bG .i64) ([ta,tc]:List Int) (css:=[[vI ta],[vI tc]]) Q T ry W3 c3 z3 Q dc dc Q ⟨(cells_one (ah Q)),⟨(cells_one (ah Q)),T⟩⟩ Q Q Q<|el H fun te had H=>cl Q (cL 128) Q (bD.c had)<|gq 1 ?_
 cases H.out; exact ek 2
theorem dS.c {v0_0 v0_1:OV} {b0_:Nat} (h:dS.f k a0 a1=some r):Tr prog 106 [eW b0_,agg (ak.enc a1)] [aJ b0_ 190 [eq v0_0.1,eq v0_1.1],own ak.K v0_0.1 a0.fl] (γ:=Unit) (fun _=>True) (fun g=>lr [vI r.1,vB r.2]) (fun g=>[aJ b0_ 190 [eq v0_0.1,eq v0_1.1],own ak.K v0_0.1 a0.fl]):=by
 refine tf func106 h fun R0 F H=>?_
 refine wr 3 1<|Dv.box Q T Q cA nofun fun ba=>go 2<|wd mX 10 0<|gl 5 [1,0]<|el H fun ta haa H=>oU (B:=[own ak.K v0_0.1 a0.fl]) 3 [2,0,1] (cL 166) (Pt.Bn _ (Pt.jZ (slices_BinarySearchFunc_Edu_Edu.c haa) (.cons cK (.cons cK (.cons (uA (cL 167) (by rintro _ _ ⟨a0_,a1_,r_,h_,rfl,rfl⟩; exact dV.c h_)) .nil)))) (.cons (sG (ab 0 Q)) (.cons wC (.cons wC .nil))) (AR (oV o5 (oV o5 xp)))) ?_
 refine eh Q T Q Q<|eh Q T Q Q<|gq 2 ?_
 cases H.out; exact et () 3 [0,1,2] 1
theorem qE.c (h:qE.f a0=some r):Pt prog 168 [agg (ak.enc a0)] (agg (uP.enc r)):=by
 refine pf func168 h fun R0 F H=>?_
 refine wr 2 3<|Dv.box Q T Q cA nofun fun ba=>al Q T zc294 nofun fun bc=>.fin<|wr 12 2048<|gl 10 [1,1,1,1,1]<|Dv.lI (qs:=[vI a0.aH,vS a0.aa,vS a0.ai,vS a0.ae,vB a0.ao]) (css:=[[vI a0.aH],[vS a0.aa],[vS a0.ai],[vS a0.ae],[vB a0.ao]]) Q T KD pl294 z294 Q ⟨(cells_one (ah Q)),⟨(cells_one (ah Q)),⟨(cells_one (ah Q)),⟨(cells_one (ah Q)),⟨(cells_one (ah Q)),T⟩⟩⟩⟩⟩ Q Q<|sy 0 ?_
 refine .fin ?_
 cases H.out; exact r2 i2 Q (.cons (au Q KD Q c294 (ab 0 Q) Q) .nil)
theorem kY.c (h:kY.f a0 a1=some r):Pt prog 232 [sl (bG .u8) a0,sl (bG .u8) a1] (vI r):=by
 refine pf func232 h fun R0 F H=>?_
 refine so<|wr 4 0<|go 2<|Dv.KB Q T Q (KF func260 kr Q xf260 xg260)<|gq 1 ?_
 cases H.out; exact ek 0
theorem cF.c {p0_:OV} (h:cF.f k a0 a1=some r):Tr prog 261 [eq p0_.1,vI a1] [own (bG .u8) p0_.1 a0] (γ:=OV) (fun _=>True) (fun g=>eq g.1) (fun g=>[own (bG .u8) g.1 r]):=by
 refine tf func261 h fun R0 F H=>?_
 refine so<|wr 3 0<|go 1<|Dv.Hp Q T Q Q<|go 1<|wr 7 32<|go 2<|Dv.kZ Q T Q (ab 0 Q) jy<|go 1<|Dv.kZ Q T Q (ab 0 Q) jy<|gr H fun ga H=>Dv.slo (jj:=0) Q T Q Q jy W5 c5 dG (ff Q ga.1) (.inr ⟨⟨_,_,Q,ga.1,Q⟩,Q,Q⟩) ga.2.1 ga.2.2 nofun (fun va=>?_)
 refine go 1<|sq H (fun qh:(Int×Bool×(List Int))×OV=>qh.1) [] (fun qh=>[(0,eq qh.2.1),(1,vI qh.1.1)]) (fun qh=>[(0,own (bG .u8) qh.2.1 qh.1.2.2)]) (fun qh H=>?_) (fun H=>?_)
 ·
  obtain ⟨pa,vb⟩:=qh
  refine wr 6 16<|go 2<|Dv.H4 Q T Q W3 W5<|Dv.lit (bG .u8) ([IntKind.u8.wrap (pa.1)]:List Int) (css:=[[eq (.int .u8 (IntKind.u8.wrap (pa.1)))]]) Q T jy W5 c5 z5 Q dc dc Q ⟨(cells_one (ah Q)),T⟩ Q Q Q<|gr H fun gb H=>ap (bG .u8) 0 ([IntKind.u8.wrap (pa.1)]:List Int) bQ jy (.inr ⟨_,jy⟩) se gb nofun fun vd=>?_
  refine gq 1 ?_
  cases H.out; exact et vd 1 [0] 0
 refine WP.block<|ws 1 [0] 0 ?_
 refine lq (fun j_ (pc:Int×(List Int)×OV)=>cF.l0 k j_ pc.1 pc.2.1) (max a1 0,(a0.take ((a0.length:Int).toNat)).drop 0,va) H [] (fun pc=>[(0,eq pc.2.2.1),(1,vI pc.1)]) (fun pc=>[(0,own (bG .u8) pc.2.2.1 pc.2.1)]) ?_
 rintro j_ ⟨xc,xd,ve⟩ H
 rcases j_ with _ | ja
 ·
  exact (aW.no H).elim
 try dsimp only at H
 rw [cF.l0] at H
 refine WP.seq<|so<|cf H ?_ ?_ <;> intro H
 ·
  refine WP.exit ?_
  have H:=H.out
  exact jn ((xc,decide (128≤xc),xd),ve) H
 refine WP.skip<|WP.seq<|WP.block<|rg 8 64<|go 2<|nQ Q Q Q (qG dc)<|go 1<|Dv.H4 Q T Q W3 W5<|Dv.lit (bG .u8) ([IntKind.u8.wrap (av ((xc.tmod 128)+128))]:List Int) (css:=[[eq (.int .u8 (IntKind.u8.wrap (av ((xc.tmod 128)+128))))]]) Q T jy W5 c5 z5 Q dc dc Q ⟨(cells_one (ah Q)),T⟩ Q Q Q<|gr H fun gi H=>ap (bG .u8) 0 ([IntKind.u8.wrap (av ((xc.tmod 128)+128))]:List Int) bQ jy (.inr ⟨_,jy⟩) se gi nofun fun vh=>?_
 exact go 1<|rg 3 0<|go 1<|nQ Q Q Q (n9 dc)<|go 1<|bk ja (av (xc.tdiv 128),xd++([IntKind.u8.wrap (av ((xc.tmod 128)+128))]:List Int),vh) H
theorem oO.c {p0_:OV} (h:oO.f k a0 a1=some r):Tr prog 262 [eq p0_.1,vS a1] [own (bG .u8) p0_.1 a0] (γ:=OV) (fun _=>True) (fun g=>eq g.1) (fun g=>[own (bG .u8) g.1 r]):=by
 refine tf func262 h fun R0 F H=>?_
 refine so<|wr 7 40<|go 2<|Dv.lens Q T Q W9<|el H fun ta haa H=>cx 1 [0] (cL 261) (cF.c haa (p0_:=p0_)) nofun fun ga _=>?_
 refine go 1<|gr H fun gb H=>ap (bG .u8) 0 (mM a1) C0 jy (.inl W9) se gb nofun fun va=>?_
 refine gq 1 ?_
 cases H.out; exact et va 1 [0] 0
theorem oD.c {p0_:OV} (h:oD.f k a0 a1=some r):Tr prog 263 [eq p0_.1,vB a1] [own (bG .u8) p0_.1 a0] (γ:=OV) (fun _=>True) (fun g=>eq g.1) (fun g=>[own (bG .u8) g.1 r]):=by
 refine tf func263 h fun R0 F H=>?_
 refine so<|WP.seq<|so<|ce H ?_ ?_ <;> intro H
 ·
  refine wr 3 2<|go 1<|el H fun ta haa H=>cx 1 [0] (cL 261) (cF.c haa (p0_:=p0_)) nofun fun ga _=>?_
  refine gq 1 ?_
  cases H.out; exact et ga 1 [0] 0
 refine WP.skip<|wr 3 2<|go 1<|el H fun tc hac H=>cx 1 [0] (cL 261) (cF.c hac (p0_:=p0_)) nofun fun gb _=>?_
 refine gq 1 ?_
 cases H.out; exact et gb 1 [0] 0
theorem cQ.c (h:cQ.f k a0=some r):Tr prog 233 [agg (ak.enc a0)] [] (γ:=OV) (fun _=>True) (fun g=>eq g.1) (fun g=>[own (bG .u8) g.1 r]):=by
 refine tf func233 h fun R0 F H=>?_
 refine wr 2 1<|Dv.box Q T Q cA nofun fun ba=>go 1<|wr 4 4<|gl 2 [0]<|vg (eK (bG .u8) none) fun _ _=>?_
 refine el H fun ta haa H=>cx 2 [0,1] (cL 261) (cF.c haa (p0_:=lM)) nofun fun ga _=>?_
 refine go 1<|WP.lG H (fun qh:(Int×Bool×(List Int))×OV=>qh.1) (fun qh=>[(1,eW ba),(3,eq qh.2.1)]) (fun qh=>[aJ ba 52 (ak.enc a0),own (bG .u8) qh.2.1 qh.1.2.2]++F) (fun qh H=>?_) (fun H=>?_)
 rotate_left
 ·
  refine wr 11 0<|gl 8 [1,1,1,1]<|Dv.lit aE ([a0.aa,a0.ai,a0.bE,a0.ae]:List BA) (css:=[[vS a0.aa],[vS a0.ai],[vS a0.bE],[vS a0.ae]]) Q T eb W9 c9 z9 Q dc dc Q ⟨(cells_one (ah Q)),⟨(cells_one (ah Q)),⟨(cells_one (ah Q)),⟨(cells_one (ah Q)),T⟩⟩⟩⟩ Q Q Q<|Dv.eX Q T Q eb<|go 1<|WP.block<|ws 2 [1,0] 0 ?_
  refine lq (fun j_ (pa:Int×(List Int)×OV)=>cQ.l1 k a0 j_ pa.1 pa.2.1) (0,ta,ga) H [1,19,20] (fun pa=>[(3,eq pa.2.2.1),(21,vI pa.1)]) (fun pa=>[(1,own (bG .u8) pa.2.2.1 pa.2.1)]) ?_
  rintro j_ ⟨xc,xd,va⟩ H
  rcases j_ with _ | ja
  ·
   exact (aW.no H).elim
  try dsimp only at H
  rw [cQ.l1] at H
  refine so<|WP.seq<|cf H ?_ ?_ <;> intro H
  ·
   refine WP.exit ?_
   have H:=H.out
   exact jn ((xc,decide (xc<(([a0.aa,a0.ai,a0.bE,a0.ae]:List BA).length:Int)),xd),va) H
  refine WP.skip<|WP.seq<|WP.block<|wr 3 0<|gr H fun gb H=>Dv.jA Q T Q Q eb W9 c9 gb.1 gb.2<|mL Q T Q qN Q<|go 1<|rg 4 4<|go 2<|el H fun tc hac H=>cx 2 [1,0] (cL 262) (oO.c hac (p0_:=va)) nofun fun gi _=>?_
  refine go 1<|rg 2 0<|go 2<|ns 2 [1,0] 0 ?_
  exact bk ja (av (xc+1),tc,gi) H
 obtain ⟨pc,vb⟩:=qh
 refine wr 5 8<|gl 3 [0]<|el H fun te had H=>cx 2 [1,0] (cL 263) (oD.c had (p0_:=vb)) nofun fun gj _=>?_
 refine go 1<|WP.lG H (fun qi:(Int×Bool×(List Int))×OV=>qi.1) (fun qi=>[(3,eq qi.2.1)]) (fun qi=>[aJ ba 52 (ak.enc a0),own (bG .u8) qi.2.1 qi.1.2.2]++F) (fun qi H=>?_) (fun H=>?_)
 ·
  obtain ⟨pe,vd⟩:=qi
  refine sp ?_
  cases H.out; exact et vd 2 [0,1] 1
 refine wr 11 0<|gl 8 [1,1,1,1]<|Dv.lit (bG .i64) ([a0.b7,a0.aM,a0.aT,a0.bf]:List Int) (css:=[[vI a0.b7],[vI a0.aM],[vI a0.aT],[vI a0.bf]]) Q T ry W3 c3 z3 Q dc dc Q ⟨(cells_one (ah Q)),⟨(cells_one (ah Q)),⟨(cells_one (ah Q)),⟨(cells_one (ah Q)),T⟩⟩⟩⟩ Q Q Q<|Dv.eX Q T Q ry<|go 1<|WP.block<|ws 2 [1,0] 0 ?_
 refine lq (fun j_ (pg:Int×(List Int)×OV)=>cQ.l0 k a0 j_ pg.1 pg.2.1) (0,te,gj) H [41,42] (fun pg=>[(3,eq pg.2.2.1),(43,vI pg.1)]) (fun pg=>[(1,own (bG .u8) pg.2.2.1 pg.2.1)]) ?_
 rintro j_ ⟨xe,xf,ve⟩ H
 rcases j_ with _ | jc
 ·
  exact (aW.no H).elim
 try dsimp only at H
 rw [cQ.l0] at H
 refine so<|WP.seq<|cf H ?_ ?_ <;> intro H
 ·
  refine WP.exit ?_
  have H:=H.out
  exact jn ((xe,decide (xe<(([a0.b7,a0.aM,a0.aT,a0.bf]:List Int).length:Int)),xf),ve) H
 refine WP.skip<|WP.seq<|WP.block<|wr 3 0<|gr H fun gk H=>Dv.jA Q T Q Q ry W3 c3 gk.1 gk.2<|mL Q T Q Hm Q<|go 1<|rg 4 4<|go 2<|el H fun tg hae H=>cx 2 [1,0] (cL 261) (cF.c hae (p0_:=ve)) nofun fun gm _=>?_
 refine go 1<|rg 2 0<|go 2<|ns 2 [1,0] 0 ?_
 exact bk jc (av (xe+1),tg,gm) H
theorem lz.c (h:lz.f k a0 a1=some r):Pt prog 169 [agg (ak.enc a0),agg (ak.enc a1)] (vI r):=by
 refine pf func169 h fun R0 F H=>?_
 refine wr 3 3<|Dv.box Q T Q cA nofun fun ba=>Dv.box Q T Q cA nofun fun bc=>go 1<|WP.seq<|dgo mX [0,1,2,3,4,5,7,6,8,9,10,11,12] [6,8]<|gl 4 [1,0]<|el H fun ta haa H=>cl Q (cL 129) Q (cB.c haa)<|gl 2 [1,0]<|el H fun tc hac H=>Dv.zh (pre:=[]) (F:=[aJ bc 52 (ak.enc a1),aJ ba 52 (ak.enc a0)]++F) (fun ga:OV=>[own (bG .u8) ga.1 tc,aJ bc 52 (ak.enc a1),aJ ba 52 (ak.enc a0)]++F) Q T (cL 233) Q (cQ.c hac) (my (L:=[aJ bc 52 (ak.enc a1),aJ ba 52 (ak.enc a0)]) (F:=F) [0,1] Q Q Q) Q pE (fun ga _=>?_)
 refine el H fun te had H=>cx 3 [0,1,2] (cL 233) (cQ.c had) pC fun gb _=>?_
 refine el H fun tg hae H=>oU (B:=[own (bG .u8) ga.1 tc,own (bG .u8) gb.1 te]) 4 [1,0,2,3] (cL 232) (Pt.Bn _ (kY.c hae) (.cons (sG (ab 0 Q)) (.cons (sG (ab 1 Q)) .nil)) o5) ?_
 refine Dv.lit (bG .i64) ([ta,tg]:List Int) (css:=[[vI ta],[vI tg]]) Q T ry W3 c3 z3 Q dc dc Q ⟨(cells_one (ah Q)),⟨(cells_one (ah Q)),T⟩⟩ Q Q Q<|el H fun tj haf H=>cl Q (cL 128) Q (bD.c haf)<|gq 1 ?_
 cases H.out; exact ek 4
theorem jS.c (h:jS.f k a0 a1=some r):Pt prog 107 [agg (ak.enc a0),agg (ak.enc a1)] (vB r):=by
 refine pf func107 h fun R0 F H=>?_
 refine wr 3 3<|Dv.box Q T Q cA nofun fun ba=>Dv.box Q T Q cA nofun fun bc=>go 1<|wd mX 12 0<|gl 1 [1]<|el H fun ta haa H=>cl Q (cL 168) Q (qE.c haa)<|gl 1 [0]<|el H fun tc hac H=>cl Q (cL 168) Q (qE.c hac)<|Dv.eqs [.int .i64 ta.aH,.string ta.aa,.string ta.ai,.string ta.ae,.bool ta.ao] [.int .i64 tc.aH,.string tc.aa,.string tc.ai,.string tc.ae,.bool tc.ao] Q T Q Q Q Q eg294 (fun _=>kn 2 dc (fun _=>KL ta tc))<|gp 1 ?_
 cases cc:decide (ta=tc)
 ·
  have H:=H.cf cc
  refine gq 6 ?_
  cases H.out; exact ek 2
 have H:=H.ct cc
 refine gl 2 [1,0]<|el H fun te had H=>Dv.call Q (gg Q) (cL 169) Q (lz.c had)<|gq 3 ?_
 cases H.out; exact ek 2
theorem cV.c {p0_:OV} (h:cV.f a0 a1 a2=some r):Tr prog 108 [eq p0_.1,vI a1,sl ak.K a2] [own ak.K p0_.1 a0] (γ:=OV) (fun _=>True) (fun g=>eq g.1) (fun g=>[own ak.K g.1 r]):=by
 unfold cV.f at h
 obtain ⟨⟨h0,h1,h2,h3,h4⟩,h5⟩:=(aW.of h).an
 obtain rfl:=aW.out h5
 clear h h5
 obtain ⟨i,rfl⟩:=Int.eq_ofNat_of_zero_le h0
 have hi:i≤a0.length:=om
 obtain ⟨v,hv⟩:=p0_
 obtain ⟨ti,i1,i2,i3,i4⟩:=nI
 refine Tr.body func108 (c:=_) Q ntmps108 (Nat.le_of_ble_eq_true Q) fun R0 F=>WP.seq<|WP.rb [(0,false)] kr<|go 1<|WP.seq<|WP.rb [(0,false),(1,false),(2,false)] kr<|go 2<|Dv.sloa (Kd:=ak.K) (xs:=a0) (v:=v) Q T Q (ab 0 Q) fS iB jh (eT (m:=i) Q) hi<|.fin<|WP.seq<|WP.rb [(0,false),(1,false),(2,false)] kr<|go 1<|Dv.eX Q T Q fS<|go 1<|WP.seq<|WP.seq<|WP.rb [(0,false),(1,false)] kr<|go 2<|WP.cond Q (fun c0=>?_) (fun c0=>?_)
 ·
  exfalso; have:=beq_iff_eq.1 c0; omega
 refine WP.skip<|WP.seq<|WP.rb [(0,false),(1,false),(2,false)] kr<|go 1<|Dv.kZ (Kd:=ak.K) (xs:=a0) (v:=v) Q T Q (ab 0 Q) fS<|go 1<|WP.seq<|WP.seq<|WP.rb [(0,false),(1,false),(2,false)] kr<|go 3<|WP.cond Q (fun c1=>?_) (fun c1=>?_)
 ·
  have e1:i=a0.length:=by have:=beq_iff_eq.1 c1; omega
  subst e1
  refine WP.seq<|WP.rb [(0,false),(1,false),(2,true),(3,false)] kr<|go 2<|Dv.Eu (Kd:=ak.K) (xs:=a0) (v:=v) (jj:=0) (ys:=a2) (fun v1:OV=>[own ak.K v1.1 (a0++a2)]++F) Q T Q Q Q bQ fS (.inr ⟨_,fS⟩) nI Q dc om Q nofun (fun v1=>?_)
  refine gq 1 ?_
  have e2:a0.take (a0.length:Int).toNat++a2++a0.drop (a0.length:Int).toNat=a0++a2:=sM
  rw [e2]
  exact et v1 1 [0] 0
 refine WP.skip ?_
 have hlt:i<a0.length:=by have:¬ ((i:Int)=(a0.length:Int)):=(by simpa using c1); omega
 have hne:a0≠[]:=by intro e; subst e; simp at hlt
 rw [Int.toNat_natCast]
 refine wg (Bb 0 Q hne) fun g hg=>?_
 rcases g with ⟨b,off,c,bT,A,C⟩
 change v = .slice (some ⟨b,off,none⟩) a0.length c∧a0.length≤c∧A.length=off∧off+c*ak.K.sz≤(A++a0.flatMap ak.K.enc++C).length at hg
 obtain ⟨rfl,hc,hA,hlen⟩:=hg
 change WP _ _ _ _ _ _ (aJ b bT (A++a0.flatMap ak.K.enc++C)::F)
 have hsz:0<ak.K.sz:=dc
 have ml:∀ {p q:Nat},p≤q→p*ak.K.sz≤q*ak.K.sz:=fun h=>Nat.mul_le_mul_right _ h
 have fl:(A++a0.flatMap ak.K.enc++C).length=off+a0.length*ak.K.sz+C.length:=by rw [List.length_append,List.length_append,bI,hA]
 have fd:((a0.drop i).flatMap ak.K.enc).length=(a0.length-i)*ak.K.sz:=by rw [bI,List.length_drop]
 have fy:(a2.flatMap ak.K.enc).length=a2.length*ak.K.sz:=bI _
 have s1:i*ak.K.sz+a2.length*ak.K.sz+(a0.length-i)*ak.K.sz=(a0.length+a2.length)*ak.K.sz:=by rw [← Nat.add_mul,← Nat.add_mul]; congr 1; omega
 have s2:(i+a2.length)*ak.K.sz=i*ak.K.sz+a2.length*ak.K.sz:=Nat.add_mul ..
 have zl:(a0.take i++a2++a0.drop i).length=a0.length+a2.length:=by simp only [List.length_append,List.length_take,List.length_drop]; omega
 refine WP.seq<|WP.seq<|WP.rb [(0,false),(1,false),(2,false),(3,false),(4,false),(5,false)] kr<|go 2<|nQ Q Q Q (nW (a:=a0.length) (b:=a2.length) om)<|go 1<|Dv.capk Q T Q fS<|go 1<|WP.cond Q (fun c2=>?_) (fun c2=>?_)
 ·
  have hg:c<a0.length+a2.length:=by have:=of_decide_eq_true c2; omega
  refine WP.seq<|WP.rb [(0,false),(1,false),(2,false),(3,false),(4,false),(5,false),(6,false),(7,false),(8,true),(9,false)] kr<|go 2<|Dv.wy (o':=off) (m':=i) (c':=c) Q T Q fS iB jh dG (eT (m:=i) Q) (Nat.zero_le _) om (.inr Q) sM sM sM<|go 2<|nQ Q Q Q (nW (a:=a0.length) (b:=a2.length) om)<|go 1<|nQ Q Q Q (EY (a:=a0.length+a2.length) (b:=i) om om)<|Dv.apmn (sz:=ak.K.sz) (jj:=0) (k1:=a0.length+a2.length-i) (N:=a0.length+a2.length) (Q:=(a0.take i).flatMap ak.K.enc) Q T Q Q fS W3 i1 i2 i3 i4 Q dc om om hg om h4 Q ?_ (HB (Kd:=ak.K) hi hA) nofun (fun w hw=>?_)
  ·
   rw [fl]; have:=ml (Nat.le_of_lt hlt); omega
  rcases w with ⟨b2,nc⟩
  replace hw:a0.length+a2.length≤nc:=hw
  refine gq 1 ?_
  generalize hZ:(Builtin.zeroCells (Value.cells _) ((b2,nc).2-i)).toList.map eq=Z
  have zz:Z.length=(nc-i)*ak.K.sz:=by rw [← hZ,List.length_map,Array.length_toList,Builtin.zeroCells,Array.size_map,Array.size_range]; rfl
  have ft:((a0.take i).flatMap ak.K.enc++Z).length=nc*ak.K.sz:=by rw [List.length_append,bI,List.length_take,Nat.min_eq_left hi,zz,← Nat.add_mul]; congr 1; omega
  have s3:=ml hw
  have s4:i*ak.K.sz+(a0.length-i)*ak.K.sz=a0.length*ak.K.sz:=by rw [← Nat.add_mul]; congr 1; omega
  refine WP.seq<|WP.rb [(0,false),(1,false),(2,false),(3,false),(4,true)] kr<|go 2<|Dv.wy (o':=i*ak.K.sz) (m':=a0.length+a2.length-i) (c':=nc-i) Q T Q fS iB jh (eT (m:=i) Q) dG om hw (.inl (Nat.lt_of_lt_of_le om hw)) (Nat.zero_add _) Q Q<|go 1<|Dv.IQ (jj:=0) (kk:=a2.length) Q T Q Q fS iB jh Aw om Q ?_ nofun ?_
  ·
   rw [ft,fy]; omega
  refine .fin ?_
  have l1:(nY ((a0.take i).flatMap ak.K.enc++Z) (i*ak.K.sz) (a2.flatMap ak.K.enc)).length=nc*ak.K.sz:=by rw [um (by rw [ft,fy]; omega),ft]
  refine WP.seq<|WP.IA mX [(0,false),(1,false),(2,false),(3,false),(4,false),(5,false),(6,false),(7,false),(8,true)] kr<|go 3<|nQ Q Q Q (nW (a:=i) (b:=a2.length) om)<|Dv.wy (o':=(i+a2.length)*ak.K.sz) (m':=a0.length-i) (c':=nc-(i+a2.length)) Q T Q fS iB jh (eT (m:=i+a2.length) Q) dG om hw (.inl (Nat.lt_of_lt_of_le om hw)) (Nat.zero_add _) om Q<|go 2<|Dv.wy (o':=off+i*ak.K.sz) (m':=a0.length-i) (c':=c-i) Q T Q fS iB jh (eT (m:=i) Q) dG hi hc (.inl om) Q Q Q<|Dv.IQ (jj:=0) (kk:=a0.length-i) Q T Q Q fS iB jh (Ap (ab 1 Q) hi hA) (Nat.min_self _) Q ?_ (fun _=>fO kr) ?_
  ·
   rw [l1,fd]; omega
  refine .fin ?_
  have l2:(nY (nY ((a0.take i).flatMap ak.K.enc++Z) (i*ak.K.sz) (a2.flatMap ak.K.enc)) ((i+a2.length)*ak.K.sz) ((a0.drop i).flatMap ak.K.enc)).length=nc*ak.K.sz:=by rw [um (by rw [l1,fd]; omega),l1]
  refine WP.seq<|WP.rb [(0,false),(1,false)] kr<|go 2<|wg (vR (Kd:=ak.K) (off:=0) (n:=a0.length+a2.length) (c:=nc) (zs:=a0.take i++a2++a0.drop i) 0 Q zl hw (by rw [l2]; omega) (Ix hi)) fun _ _=>?_
  exact et (⟨.slice (some ⟨b2,0,none⟩) (a0.length+a2.length) nc,Q⟩:OV) 2 [1,0] 1
 have hg:a0.length+a2.length≤c:=by have:=of_decide_eq_false c2; omega
 refine WP.skip ?_
 have s3:=ml hg
 refine WP.seq<|WP.rb [(0,false),(1,false),(2,false),(3,false),(4,false),(5,false)] kr<|go 3<|nQ Q Q Q (nW (a:=a0.length) (b:=a2.length) om)<|Dv.wy (o':=off) (m':=a0.length+a2.length) (c':=c) Q T Q fS iB jh dG (eT (m:=a0.length+a2.length) Q) (Nat.zero_le _) hg (.inr Q) sM sM sM<|go 1<|WP.seq<|WP.seq<|WP.rb [(0,false),(1,false),(2,false),(3,false),(4,false),(5,false),(6,false),(7,false)] kr<|go 4<|nQ Q Q Q (nW (a:=i) (b:=a2.length) om)<|Dv.wy (o':=off+(i+a2.length)*ak.K.sz) (m':=a0.length-i) (c':=c-(i+a2.length)) Q T Q fS iB jh (eT (m:=i+a2.length) Q) dG om hg (.inl (Nat.lt_of_lt_of_le om hg)) Q om Q<|Dv.ovl Q T Q Q (ab 0 Q) h2 hsz func170 kr Q xf170 xg170 Q fS iB<|go 1<|WP.cond Q (fun c3=>?_) (fun c3=>by cases c3)
 refine WP.seq<|WP.IA mX [(0,false),(1,false),(2,false),(3,false),(4,false),(5,false),(6,false),(7,false),(8,true)] kr<|go 3<|nQ Q Q Q (nW (a:=i) (b:=a2.length) om)<|Dv.wy (o':=off+(i+a2.length)*ak.K.sz) (m':=a0.length-i) (c':=c-(i+a2.length)) Q T Q fS iB jh (eT (m:=i+a2.length) Q) dG om hg (.inl (Nat.lt_of_lt_of_le om hg)) Q om Q<|go 2<|Dv.wy (o':=off+i*ak.K.sz) (m':=a0.length+a2.length-i) (c':=c-i) Q T Q fS iB jh (eT (m:=i) Q) dG om hg (.inl om) Q Q Q<|Dv.IQ (jj:=0) (kk:=a0.length-i) Q T Q Q fS iB jh (Ap (ab 0 Q) hi hA) om Q ?_ (fun _=>fO kr) ?_
 ·
  rw [fd]; omega
 refine .fin ?_
 have l1:(nY (A++a0.flatMap ak.K.enc++C) (off+(i+a2.length)*ak.K.sz) ((a0.drop i).flatMap ak.K.enc)).length=(A++a0.flatMap ak.K.enc++C).length:=um (by rw [fd]; omega)
 refine WP.seq<|WP.rb [(0,false),(1,false),(2,false),(3,false),(4,true)] kr<|go 2<|Dv.wy (o':=off+i*ak.K.sz) (m':=a0.length+a2.length-i) (c':=c-i) Q T Q fS iB jh (eT (m:=i) Q) dG om hg (.inl om) Q Q Q<|go 1<|Dv.IQ (jj:=0) (kk:=a2.length) Q T Q Q fS iB jh Aw om Q ?_ nofun ?_
 ·
  rw [l1,fy]; omega
 refine .fin<|WP.seq<|WP.rb [(0,false),(1,false)] kr<|go 2<|wg (vR (Kd:=ak.K) (off:=off) (n:=a0.length+a2.length) (c:=c) (zs:=a0.take i++a2++a0.drop i) 0 Q zl hg (by rw [um (by rw [l1,fy]; omega),l1]; exact hlen) (I2 hi hA om)) fun _ _=>?_
 exact et (⟨.slice (some ⟨b,off,none⟩) (a0.length+a2.length) c,Q⟩:OV) 1 [0] 0
theorem dw.c {p0_:OV} (h:dw.f a0 a1 a2=some r):Tr prog 172 [eq p0_.1,vI a1,agg (dh.enc a2)] [aN.O p0_ a0] (γ:=Unit) (fun _=>True) (fun g=>lr []) (fun g=>[aN.O p0_ r]):=by
 refine tf func172 h fun R0 F H=>?_
 refine wr 1 1<|Dv.box Q T Q cA nofun fun ba=>.fin<|WP.seq<|wg (aN.iU 1 Q) fun ga haa=>?_
 refine dg mX 8 128<|go 1<|Dv.bW haa Q T Q<|fp haa Q T Q ig<|gl 3 [0,3]<|gr H fun gb H=>?_
 have hac:a1.toNat<a0.fl.length:=bC gb
 refine Dv.kQ Q T Q (ab 1 Q) Q oS nK nX gb.1 gb.2<|Dv.IZ (j:=a1.toNat) (f:=0) (jj:=1) a2 Q T Q Q (aZ (dh.K.one _)) nK nX Q Q hac (Nat.le_of_ble_eq_true Q) Q (fun _=>fO kr)<|.fin<|dg mX 8 128<|go 1<|Dv.bW haa Q T Q<|fp haa Q T Q ur<|gl 4 [0,3]<|Dv.mup (jj:=2) a1 Q T Q Q Q Q tU (dR W9) (fun _=>fO kr)<|.fin<|ng (aN.shut (p:=p0_) (m:=(⟨a0.fl.set a1.toNat a2,mput a0.iS a2.bY a1⟩:aN)) (ga.1,ga.2.1,ga.2.2) haa (pm 4 [0,1,2,3])) fun _ _=>?_
 obtain rfl:=aW.out H
 exact re Q () 2 [1,0] 1 .nil
theorem heap_ahead.c (h:heap_ahead.f k a0 a1=some r):Pt prog 235 [agg (dh.enc a0),agg (dh.enc a1)] (vI r):=by
 refine pf func235 h fun R0 F H=>?_
 refine wr 3 3<|Dv.box Q T Q cA nofun fun ba=>Dv.box Q T Q cA nofun fun bc=>go 1<|wd mX 13 0<|gl 4 [1,0]<|el H fun ta haa H=>cl Q (cL 129) Q (cB.c haa)<|gl 4 [1,0]<|el H fun tc hac H=>cl Q (cL 65) Q (aC.c hac)<|Dv.lit (bG .i64) ([ta,tc]:List Int) (css:=[[vI ta],[vI tc]]) Q T ry W3 c3 z3 Q dc dc Q ⟨(cells_one (ah Q)),⟨(cells_one (ah Q)),T⟩⟩ Q Q Q<|el H fun te had H=>cl Q (cL 128) Q (bD.c had)<|gq 1 ?_
 cases H.out; exact ek 2
theorem heap_Heap_down.c {p0_:OV} (h:heap_Heap_down.f k a0 a1=some r):Tr prog 173 [eq p0_.1,vI a1] [aN.O p0_ a0] (γ:=Unit) (fun _=>True) (fun g=>lr []) (fun g=>[aN.O p0_ r]):=by
 refine tf func173 h fun R0 F H=>?_
 refine wr 9 384<|go 1<|Dv.qz aN.nn Q T Q (ab 0 Q)<|vg (aN.iU 0 Q) fun ga haa=>?_
 refine fp haa Q T Q ig<|gl 2 [0]<|gr H fun gb H=>?_
 have hac:a1.toNat<a0.fl.length:=bC gb
 refine Dv.kQ Q T Q (ab 1 Q) Q oS nK nX gb.1 gb.2<|Dv.pM (j:=a1.toNat) (f:=0) Q T Q (ab 1 Q) hac nK Q nX (Nat.le_of_ble_eq_true Q)<|al Q T EP nofun fun ba=>sy 0 ?_
 refine .fin<|WP.lG H id (fun pa=>[(0,eq p0_.1),(1,vI pa.1),(4,eW ba)]) (fun pa=>[aJ ba 299 (dh.enc (a0.fl.getD a1.toNat default)),aN.O p0_ pa.2.2.2.2]++F) (fun pa H=>?_) (fun H=>?_)
 ·
  refine rg 4 8<|gl 3 [0]<|el H fun ta had H=>cx 2 [1,0] (cL 172) (dw.c had (p0_:=p0_)) nofun fun _ _=>?_
  refine .fin ?_
  obtain rfl:=aW.out H
  exact re Q () 2 [1,0] 1 .nil
 refine WP.block<|wg (aN.shut (p:=p0_) (m:=a0) (ga.1,ga.2.1,ga.2.2) haa (pm 4 [1,2,3,0])) fun _ _=>?_
 refine ws 2 [1,0] 0 ?_
 refine lq (fun j_ (pc:Int×aN)=>heap_Heap_down.l0 k a0 a1 j_ pc.1 pc.2) (a1,a0) H [0,4] (fun pc=>[(1,vI pc.1)]) (fun pc=>[(1,aN.O p0_ pc.2)]) ?_
 rintro j_ ⟨xc,xd⟩ H
 rcases j_ with _ | ja
 ·
  exact (aW.no H).elim
 try dsimp only at H
 rw [heap_Heap_down.l0] at H
 refine WP.block<|so<|WP.lG H id (fun pe=>[(0,eq p0_.1),(1,vI xc),(4,eW ba),(5,vI pe.1)]) (fun pe=>[aJ ba 299 (dh.enc (a0.fl.getD a1.toNat default)),aN.O p0_ xd]++F) (fun pe H=>?_) (fun H=>?_)
 ·
  refine WP.seq<|WP.seq<|wg (aN.iU 1 Q) fun gi hae=>?_
  refine dg mX 19 0<|go 2<|Dv.bW hae Q T Q<|fp hae Q T Q ig<|gl 1 [0]<|Dv.kZ Q T Q (ab 1 Q) oS<|gp 2 ?_
  cases cc:decide ((xd.fl.length:Int)≤pe.1)
  rotate_left
  ·
   have H:=H.ct cc
   refine go 11<|WP.cond Q (fun _=>?_) nofun
   refine WP.exit ?_
   have H:=H.out
   refine ng (aN.shut (p:=p0_) (m:=xd) (gi.1,gi.2.1,gi.2.2) hae (pm 4 [0,1,2,3])) fun _ _=>?_
   refine ns 2 [1,0] 0 ?_
   exact jn (xc,pe.1,pe.2,true,xd) H
  have H:=H.cf cc
  refine gl 2 [3]<|Dv.bW hae Q (gg Q) Q<|fp hae Q (gg Q) Q ig<|gl 2 [0]<|gr H fun gj H=>?_
  have haf:pe.1.toNat<xd.fl.length:=bC gj
  refine Dv.kQ Q (gg Q) Q (ab 1 Q) Q oS nK nX gj.1 gj.2<|Dv.pM (j:=pe.1.toNat) (f:=0) Q (gg Q) Q (ab 1 Q) haf nK Q nX (Nat.le_of_ble_eq_true Q)<|el H fun tc hag H=>Dv.call Q (gg Q) (cL 235) Q (heap_ahead.c hag)<|go 2<|ce H ?_ ?_ <;> intro H
  ·
   refine WP.exit ?_
   have H:=H.out
   refine ng (aN.shut (p:=p0_) (m:=xd) (gi.1,gi.2.1,gi.2.2) hae (pm 4 [0,1,2,3])) fun _ _=>?_
   refine ns 2 [1,0] 0 ?_
   exact jn (xc,pe.1,pe.2,decide (tc<0),xd) H
  refine WP.skip<|wr 10 512<|go 3<|Dv.bW hae Q T Q<|fp hae Q T Q ig<|gl 2 [0]<|gr H fun gk H=>?_
  have hah:pe.1.toNat<xd.fl.length:=bC gk
  refine Dv.kQ Q T Q (ab 1 Q) Q oS nK nX gk.1 gk.2<|Dv.pM (j:=pe.1.toNat) (f:=0) Q T Q (ab 1 Q) hah nK Q nX (Nat.le_of_ble_eq_true Q)<|vg (aN.shut (p:=p0_) (m:=xd) (gi.1,gi.2.1,gi.2.2) hae (pm 4 [0,1,2,3])) fun _ _=>?_
  refine el H fun te hai H=>cx 2 [0,1] (cL 172) (dw.c hai (p0_:=p0_)) nofun fun _ _=>?_
  refine .fin<|rg 2 0<|go 2<|ns 2 [1,0] 0 ?_
  exact bk ja (pe.1,te) H
 refine WP.seq<|wg (aN.iU 1 Q) fun gm haj=>?_
 refine dg mX 27 0<|go 3<|Dv.bW haj Q T Q<|fp haj Q T Q ig<|gl 1 [0]<|Dv.kZ Q T Q (ab 1 Q) oS<|gp 2 ?_
 cases cg:decide ((av ((av ((av (2*xc))+1))+1))<(xd.fl.length:Int))
 ·
  have H:=H.cf cg
  refine go 18<|WP.cond Q nofun (fun _=>?_)
  refine WP.skip ?_
  have H:=H.out
  refine ng (aN.shut (p:=p0_) (m:=xd) (gm.1,gm.2.1,gm.2.2) haj (pm 4 [0,1,2,3])) fun _ _=>?_
  refine ns 2 [1,0] 0 ?_
  exact jn (av ((av (2*xc))+1),false) H
 have H:=H.ct cg
 refine go 1<|Dv.bW haj Q (gg Q) Q<|fp haj Q (gg Q) Q ig<|gl 3 [0]<|gr H fun gn H=>?_
 have hak:(av ((av ((av (2*xc))+1))+1)).toNat<xd.fl.length:=bC gn
 refine Dv.kQ Q (gg Q) Q (ab 1 Q) Q oS nK nX gn.1 gn.2<|Dv.pM (j:=((av ((av ((av (2*xc))+1))+1)).toNat)) (f:=0) Q (gg Q) Q (ab 1 Q) hak nK Q nX (Nat.le_of_ble_eq_true Q)<|go 1<|Dv.bW haj Q (gg Q) Q<|fp haj Q (gg Q) Q ig<|gl 2 [0]<|gr H fun gu H=>?_
 have ham:(av ((av (2*xc))+1)).toNat<xd.fl.length:=bC gu
 refine Dv.kQ Q (gg Q) Q (ab 1 Q) Q oS nK nX gu.1 gu.2<|Dv.pM (j:=((av ((av (2*xc))+1)).toNat)) (f:=0) Q (gg Q) Q (ab 1 Q) ham nK Q nX (Nat.le_of_ble_eq_true Q)<|el H fun tg han H=>Dv.call Q (gg Q) (cL 235) Q (heap_ahead.c han)<|go 2<|cf H ?_ ?_ <;> intro H
 ·
  refine WP.skip ?_
  have H:=H.out
  refine ng (aN.shut (p:=p0_) (m:=xd) (gm.1,gm.2.1,gm.2.2) haj (pm 4 [0,1,2,3])) fun _ _=>?_
  refine ns 2 [1,0] 0 ?_
  exact jn (av ((av (2*xc))+1),decide (tg<0)) H
 refine rg 3 0<|gq 3 ?_
 have H:=H.out
 refine ng (aN.shut (p:=p0_) (m:=xd) (gm.1,gm.2.1,gm.2.2) haj (pm 4 [0,1,2,3])) fun _ _=>?_
 refine ns 2 [1,0] 0 ?_
 exact jn (av ((av ((av (2*xc))+1))+1),decide (tg<0)) H
theorem cX.c {p0_:OV} (h:cX.f k a0 a1=some r):Tr prog 174 [eq p0_.1,vI a1] [aN.O p0_ a0] (γ:=Unit) (fun _=>True) (fun g=>lr []) (fun g=>[aN.O p0_ r]):=by
 refine tf func174 h fun R0 F H=>?_
 refine wr 9 384<|go 1<|Dv.qz aN.nn Q T Q (ab 0 Q)<|vg (aN.iU 0 Q) fun ga haa=>?_
 refine fp haa Q T Q ig<|gl 2 [0]<|gr H fun gb H=>?_
 have hac:a1.toNat<a0.fl.length:=bC gb
 refine Dv.kQ Q T Q (ab 1 Q) Q oS nK nX gb.1 gb.2<|Dv.pM (j:=a1.toNat) (f:=0) Q T Q (ab 1 Q) hac nK Q nX (Nat.le_of_ble_eq_true Q)<|al Q T EP nofun fun ba=>sy 0 ?_
 refine .fin<|WP.lG H id (fun pa=>[(0,eq p0_.1),(1,vI pa.1),(4,eW ba)]) (fun pa=>[aJ ba 299 (dh.enc (a0.fl.getD a1.toNat default)),aN.O p0_ pa.2.2]++F) (fun pa H=>?_) (fun H=>?_)
 ·
  refine rg 4 8<|gl 3 [0]<|el H fun ta had H=>cx 2 [1,0] (cL 172) (dw.c had (p0_:=p0_)) nofun fun _ _=>?_
  refine .fin ?_
  obtain rfl:=aW.out H
  exact re Q () 2 [1,0] 1 .nil
 refine WP.block<|wg (aN.shut (p:=p0_) (m:=a0) (ga.1,ga.2.1,ga.2.2) haa (pm 4 [1,2,3,0])) fun _ _=>?_
 refine ws 2 [1,0] 0 ?_
 refine lq (fun j_ (pc:Int×aN)=>cX.l0 k a0 a1 j_ pc.1 pc.2) (a1,a0) H [0,4] (fun pc=>[(1,vI pc.1)]) (fun pc=>[(1,aN.O p0_ pc.2)]) ?_
 rintro j_ ⟨xc,xd⟩ H
 rcases j_ with _ | ja
 ·
  exact (aW.no H).elim
 try dsimp only at H
 rw [cX.l0] at H
 refine WP.seq<|WP.seq<|wg (aN.iU 1 Q) fun gi hae=>?_
 refine dg mX 16 0<|gp 3 ?_
 cases cc:decide (0<xc)
 ·
  have H:=H.cf cc
  refine go 13<|WP.cond Q nofun (fun _=>?_)
  refine WP.exit ?_
  have H:=H.out
  refine ng (aN.shut (p:=p0_) (m:=xd) (gi.1,gi.2.1,gi.2.2) hae (pm 4 [0,1,2,3])) fun _ _=>?_
  refine ns 2 [1,0] 0 ?_
  exact jn (xc,false,xd) H
 have H:=H.ct cc
 refine gl 2 [3]<|Dv.bW hae Q (gg Q) Q<|fp hae Q (gg Q) Q ig<|gl 3 [0]<|bng Q Q Q Q (n9 dc)<|gr H fun gj H=>?_
 have haf:(av ((av (xc-1)).tdiv 2)).toNat<xd.fl.length:=bC gj
 refine Dv.kQ Q (gg Q) Q (ab 1 Q) Q oS nK nX gj.1 gj.2<|Dv.pM (j:=((av ((av (xc-1)).tdiv 2)).toNat)) (f:=0) Q (gg Q) Q (ab 1 Q) haf nK Q nX (Nat.le_of_ble_eq_true Q)<|el H fun tc hag H=>Dv.call Q (gg Q) (cL 235) Q (heap_ahead.c hag)<|go 2<|cf H ?_ ?_ <;> intro H
 ·
  refine WP.exit ?_
  have H:=H.out
  refine ng (aN.shut (p:=p0_) (m:=xd) (gi.1,gi.2.1,gi.2.2) hae (pm 4 [0,1,2,3])) fun _ _=>?_
  refine ns 2 [1,0] 0 ?_
  exact jn (xc,decide (tc<0),xd) H
 refine WP.skip<|WP.block<|wr 12 2048<|go 3<|Dv.bW hae Q T Q<|fp hae Q T Q ig<|gl 3 [0]<|nQ Q Q Q (n9 dc)<|gr H fun gk H=>?_
 have hah:(av ((av (xc-1)).tdiv 2)).toNat<xd.fl.length:=bC gk
 refine Dv.kQ Q T Q (ab 1 Q) Q oS nK nX gk.1 gk.2<|Dv.pM (j:=((av ((av (xc-1)).tdiv 2)).toNat)) (f:=0) Q T Q (ab 1 Q) hah nK Q nX (Nat.le_of_ble_eq_true Q)<|vg (aN.shut (p:=p0_) (m:=xd) (gi.1,gi.2.1,gi.2.2) hae (pm 4 [0,1,2,3])) fun _ _=>?_
 refine el H fun te hai H=>cx 2 [0,1] (cL 172) (dw.c hai (p0_:=p0_)) nofun fun _ _=>?_
 refine .fin<|rg 4 0<|go 2<|nQ Q Q Q (n9 dc)<|go 1<|ns 2 [1,0] 0 ?_
 exact bk ja (av ((av (xc-1)).tdiv 2),te) H
theorem du.c {p0_:OV} (h:du.f k a0 a1=some r):Tr prog 109 [eq p0_.1,vS a1] [aN.O p0_ a0] (γ:=Unit) (fun _=>True) (fun g=>vB r.1) (fun g=>[aN.O p0_ r.2]):=by
 refine tf func109 h fun R0 F H=>?_
 refine so<|wr 11 0<|go 1<|Dv.qz aN.nn Q T Q (ab 0 Q)<|vg (aN.iU 0 Q) fun ga haa=>?_
 refine fp haa Q T Q ur<|gl 2 [0]<|Dv.mlk 0 Q T Q (ab 2 Q) Q tU (dR W9) z3 (fun _=>Q)<|go 1<|eh Q T Q Q<|eh Q T Q Q<|go 2<|WP.seq<|so<|ce H ?_ ?_ <;> intro H
 ·
  refine so<|wg (aN.shut (p:=p0_) (m:=a0) (ga.1,ga.2.1,ga.2.2) haa (pm 3 [0,1,2])) fun _ _=>?_
  cases H.out; exact et () 1 [0] 0
 refine WP.skip<|wr 6 32<|go 1<|Dv.bW haa Q T Q<|fp haa Q T Q ur<|gl 2 [0]<|Dv.mdl (jj:=2) Q T Q Q Q tU (dR W9) nofun<|.fin<|wr 7 0<|go 1<|Dv.bW haa Q T Q<|fp haa Q T Q ig<|gl 1 [0]<|Dv.kZ Q T Q (ab 1 Q) oS<|go 2<|wr 9 384<|go 1<|Dv.bW haa Q T Q<|fp haa Q T Q ig<|gl 2 [0]<|gr H fun gb H=>?_
 have hac:(av ((a0.fl.length:Int)-1)).toNat<a0.fl.length:=bC gb
 refine Dv.kQ Q T Q (ab 1 Q) Q oS nK nX gb.1 gb.2<|Dv.pM (j:=((av ((a0.fl.length:Int)-1)).toNat)) (f:=0) Q T Q (ab 1 Q) hac nK Q nX (Nat.le_of_ble_eq_true Q)<|al Q T EP nofun fun ba=>sy 0 ?_
 refine .fin<|wr 10 576<|go 2<|Dv.bW haa Q T Q<|fp haa Q T Q ig<|gl 2 [1]<|gr H fun gi H=>Dv.slo (jj:=2) Q T Q Q oS nK nX dG (ff Q gi.1) (.inl Q) gi.2.1 gi.2.2 nofun (fun va=>?_)
 refine Dv.bW haa Q T Q<|fp haa Q T Q ig<|sx 1 Q T Q Q (cells_one bL) JB Q Q Q nofun ?_
 refine .fin<|WP.seq<|so<|cf H ?_ ?_ <;> intro H
 ·
  refine WP.skip<|so<|wg (aN.shut (p:=p0_) (m:=(⟨(a0.fl.take ((av ((a0.fl.length:Int)-1)).toNat)).drop 0,l6 a0.iS a1⟩:aN)) (ga.1,va,ga.2.2) haa (pm 4 [1,2,3,0])) fun _ _=>?_
  cases H.out; exact et () 2 [1,0] 1
 refine wr 4 8<|gl 3 [0]<|vg (aN.shut (p:=p0_) (m:=(⟨(a0.fl.take ((av ((a0.fl.length:Int)-1)).toNat)).drop 0,l6 a0.iS a1⟩:aN)) (ga.1,va,ga.2.2) haa (pm 4 [1,2,3,0])) fun _ _=>?_
 refine el H fun ta had H=>cx 2 [0,1] (cL 172) (dw.c had (p0_:=p0_)) nofun fun _ _=>?_
 refine .fin<|wr 3 4<|go 2<|el H fun tc hae H=>cx 2 [0,1] (cL 173) (heap_Heap_down.c hae (p0_:=p0_)) nofun fun _ _=>?_
 refine .fin<|wg (aN.iU 0 Q) fun gj haf=>?_
 refine dg mX 9 256<|go 2<|Dv.bW haf Q T Q<|fp haf Q T Q ur<|gl 3 [0,3]<|Dv.EE 0 Q T Q (ab 2 Q) Q tU (dR W9) z3 (fun _=>Q)<|el H fun te hag H=>cx 4 [0,1,2,3] (cL 174) (Tr.pre (pre':=[aJ gj.1 261 [eq gj.2.1.1,eq gj.2.2.1],own dh.K gj.2.1.1 tc.fl,mp Value.string (fun x:Int=>vI x) gj.2.2.1 tc.iS]) (cX.c hag (p0_:=p0_)) (fun F R w=>aN.shut (p:=p0_) (m:=tc) (r:=F) (gj.1,gj.2.1,gj.2.2) haf (List.Perm.refl _) R w)) pC fun _ _=>?_
 refine .fin<|sp ?_
 cases H.out; exact et () 2 [1,0] 1
theorem eZ.c {p0_:OV} (h:eZ.f k a0 a1 a2=some r):Tr prog 110 [eq p0_.1,vI a1,vS a2] [aN.O p0_ a0] (γ:=Unit) (fun _=>True) (fun g=>lr []) (fun g=>[aN.O p0_ r]):=by
 refine tf func110 h fun R0 F H=>?_
 refine wr 3 4<|go 2<|el H fun ta haa H=>cx 1 [0] (cL 109) (du.c haa (p0_:=p0_)) nofun fun _ _=>?_
 refine .fin<|wr 13 4608<|go 2<|Dv.qz aN.nn Q T Q (ab 0 Q)<|vg (aN.iU 0 Q) fun ga hac=>?_
 refine fp hac Q T Q ig<|gl 3 [0]<|Dv.lI (qs:=[vI a1,vS a2]) (css:=[[vI a1],[vS a2]]) Q T nK pl299 KT Q ⟨(cells_one (ah Q)),⟨(cells_one (ah Q)),T⟩⟩ Q Q<|Dv.lit dh.K ([(⟨a1,a2⟩:dh)]:List dh) (css:=[[vI a1,vS a2]]) Q T oS nK nX KT Q dc dc Q ⟨(aZ (aj (ah Q) (aj (ah Q) bX))),T⟩ Q Q Q<|gr H fun gb H=>ap dh.K 1 ([(⟨a1,a2⟩:dh)]:List dh) bQ oS (.inr ⟨_,oS⟩) KY gb nofun fun va=>?_
 refine Dv.bW hac Q T Q<|fp hac Q T Q ig<|sx 0 Q T Q Q (cells_one bL) JB Q Q Q nofun ?_
 refine .fin<|rg 8 128<|go 2<|Dv.bW hac Q T Q<|fp hac Q T Q ig<|gl 1 [0]<|Dv.kZ Q T Q (ab 1 Q) oS<|go 1<|vg (aN.shut (p:=p0_) (m:=(⟨ta.2.fl++([(⟨a1,a2⟩:dh)]:List dh),ta.2.iS⟩:aN)) (ga.1,va,ga.2.2) hac (pm 3 [0,1,2])) fun _ _=>?_
 refine el H fun tc had H=>cx 1 [0] (cL 174) (cX.c had (p0_:=p0_)) nofun fun _ _=>?_
 refine .fin ?_
 obtain rfl:=aW.out H
 exact re Q () 1 [0] 0 .nil
theorem jK.c (h:jK.f a0=some r):Pt prog 111 [agg (ak.enc a0)] (vI r):=by
 refine pf func111 h fun R0 F H=>?_
 refine wr 2 1<|Dv.box Q T Q cA nofun fun ba=>go 1<|spj [0,0] ?_
 cases H.out; exact ek 1
theorem fJ.c {p0_:OV} (h:fJ.f k a0 a1=some r):Tr prog 43 [eq p0_.1,agg (ak.enc a1)] [cC.O p0_ a0] (γ:=Unit) (fun _=>True) (fun g=>lr [vB r.1,vI r.2.1]) (fun g=>[cC.O p0_ r.2.2]):=by
 refine tf func43 h fun R0 F H=>?_
 refine wr 3 1<|Dv.box Q T Q cA nofun fun ba=>go 2<|WP.seq<|wr 8 0<|lx 4 [0] ?_
 cases cc:(a1.aH != 2)
 rotate_left
 ·
  have H:=H.ct cc
  refine go 4<|WP.cond Q (fun _=>?_) nofun
  refine sp ?_
  cases H.out; exact et () 2 [0,1] 1
 have H:=H.cf cc
 refine gl 1 [0]<|el H fun ta haa H=>Dv.call Q (gg Q) (cL 105) Q (mD.c haa)<|go 2<|ce H ?_ ?_ <;> intro H
 ·
  refine sp ?_
  cases H.out; exact et () 2 [0,1] 1
 refine WP.skip<|wr 8 0<|gl 2 [0]<|vg (cC.iU 1 Q) fun ga hac=>?_
 refine el H fun tc had H=>oU 4 [0,1,2,3] (cL 106) (Tr.jZ (dS.c had (b0_:=ga.1) (v0_0:=ga.2.1) (v0_1:=ga.2.2)) (.cons (iM hac) (.cons cK .nil))) ?_
 refine go 1<|eh Q T Q Q<|eh Q T Q Q<|go 2<|WP.zf H id (fun pa=>[(0,eq p0_.1),(3,eW ba)]) (fun pa=>[aJ ba 52 (ak.enc a1),cC.O p0_ pa.2.2.2]++F) (fun pa H=>?_) (fun H=>?_)
 ·
  refine wr 7 0<|gl 2 [0]<|gr H fun gb H=>nQ Q Q Q (iE gb)<|gl 2 [0]<|gr H fun gi H=>nQ Q Q Q (iE gi)<|go 1<|wr 6 32<|go 1<|Dv.qz cC.nn Q T Q (ab 1 Q)<|vg (cC.iU 1 Q) fun gj hae=>?_
  refine fp hae Q T Q Da<|gl 2 [0]<|el H fun te haf H=>cx 4 [2,0,1,3] (cL 109) (du.c haf (p0_:=gj.2.2)) nofun fun _ _=>?_
  refine .fin<|WP.seq<|sL [3]<|cf H ?_ ?_ <;> intro H
  ·
   refine WP.skip<|so<|wg (cC.shut (p:=p0_) (m:=(⟨pa.2.2.2.fl,te.2⟩:cC)) (gj.1,gj.2.1,gj.2.2) hae (pm 4 [1,2,0,3])) fun _ _=>?_
   cases H.out; exact et () 2 [1,0] 1
  refine dg mX 8 128<|go 1<|Dv.bW hae Q T Q<|fp hae Q T Q Da<|gl 2 [1,3]<|el H fun tg hag H=>cl Q (cL 111) Q (jK.c hag)<|go 1<|el H fun tj hah H=>cx 4 [0,1,2,3] (cL 110) (eZ.c hah (p0_:=gj.2.2)) pC fun _ _=>?_
  refine .fin<|so<|wg (cC.shut (p:=p0_) (m:=(⟨pa.2.2.2.fl,tj⟩:cC)) (gj.1,gj.2.1,gj.2.2) hae (pm 4 [1,2,0,3])) fun _ _=>?_
  cases H.out; exact et () 2 [1,0] 1
 refine WP.block<|wd mX 25 0<|gp 2 ?_
 cases cg:tc.2
 ·
  have H:=H.cf cg
  refine go 23<|WP.cond Q nofun (fun _=>?_)
  refine so<|WP.cond Q nofun (fun _=>?_)
  refine dg mX 12 2304<|go 2<|Dv.bW hac Q T Q<|fp hac Q T Q sg<|gl 3 [0,3]<|Dv.lit ak.K ([a1]:List ak) (css:=[ak.enc a1]) Q T fS iB jh uQ Q dc dc Q ⟨(aZ (ak.K.one _)),T⟩ Q Q Q<|el H fun tm hai H=>Dv.zh (pre:=[own ak.K ga.2.1.1 a0.fl]) (F:=[aJ ga.1 190 [eq ga.2.1.1,eq ga.2.2.1],aN.O ga.2.2 a0.gQ,aJ ba 52 (ak.enc a1)]++F) (fun gk:OV=>[own ak.K gk.1 tm,aJ ga.1 190 [eq ga.2.1.1,eq ga.2.2.1],aN.O ga.2.2 a0.gQ,aJ ba 52 (ak.enc a1)]++F) Q T (cL 108) Q (cV.c hai (p0_:=ga.2.1)) (my (L:=[aJ ga.1 190 [eq ga.2.1.1,eq ga.2.2.1],own ak.K ga.2.1.1 a0.fl,aN.O ga.2.2 a0.gQ,aJ ba 52 (ak.enc a1)]) (F:=F) [1,0,2,3] Q Q Q) Q pE (fun gk _=>?_)
  refine Dv.bW hac Q T Q<|fp hac Q T Q sg<|sx 1 Q T Q Q (cells_one bL) rT Q Q Q pB ?_
  refine .fin ?_
  have H:=H.out
  refine ng (cC.shut (p:=p0_) (m:=(⟨tm,a0.gQ⟩:cC)) (ga.1,gk,ga.2.2) hac (pm 4 [1,0,2,3])) fun _ _=>?_
  refine ns 2 [1,0] 0 ?_
  exact jn (false,false,false,(⟨tm,a0.gQ⟩:cC)) H
 have H:=H.ct cg
 refine go 1<|Dv.bW hac Q (gg Q) Q<|fp hac Q (gg Q) Q sg<|gl 2 [0]<|gr H fun gm H=>?_
 have haj:tc.1.toNat<a0.fl.length:=bC gm
 refine Dv.kQ Q (gg Q) Q (ab 1 Q) Q fS iB jh gm.1 gm.2<|Dv.pM (j:=tc.1.toNat) (f:=0) Q (gg Q) Q (ab 1 Q) haj iB Q jh (Nat.le_of_ble_eq_true Q)<|gl 1 [3]<|Dv.eqs [.int .i64 ((a0.fl.getD tc.1.toNat default).aH),.string ((a0.fl.getD tc.1.toNat default).aa),.string ((a0.fl.getD tc.1.toNat default).ai),.string ((a0.fl.getD tc.1.toNat default).bE),.string ((a0.fl.getD tc.1.toNat default).ae),.bool ((a0.fl.getD tc.1.toNat default).ao),.bool ((a0.fl.getD tc.1.toNat default).j8),.int .i64 ((a0.fl.getD tc.1.toNat default).b7),.int .i64 ((a0.fl.getD tc.1.toNat default).aM),.int .i64 ((a0.fl.getD tc.1.toNat default).aT),.int .i64 ((a0.fl.getD tc.1.toNat default).bf)] [.int .i64 a1.aH,.string a1.aa,.string a1.ai,.string a1.bE,.string a1.ae,.bool a1.ao,.bool a1.j8,.int .i64 a1.b7,.int .i64 a1.aM,.int .i64 a1.aT,.int .i64 a1.bf] Q (gg Q) Q Q Q Q HM (fun _=>kn 2 dc (fun _=>Co (a0.fl.getD tc.1.toNat default) a1))<|gp 1 ?_
 cases ci:decide (a0.fl.getD tc.1.toNat default=a1)
 rotate_left
 ·
  have H:=H.ct ci
  refine go 13<|WP.cond Q (fun _=>?_) nofun
  refine so<|wg (cC.shut (p:=p0_) (m:=a0) (ga.1,ga.2.1,ga.2.2) hac (pm 4 [0,1,2,3])) fun _ _=>?_
  have H:=H.fU
  cases H.out; exact et () 2 [1,0] 1
 have H:=H.cf ci
 refine gl 2 [3]<|Dv.bW hac Q (gg Q) Q<|fp hac Q (gg Q) Q sg<|gl 2 [0]<|gr H fun gn H=>?_
 have hak:tc.1.toNat<a0.fl.length:=bC gn
 refine Dv.kQ Q (gg Q) Q (ab 1 Q) Q fS iB jh gn.1 gn.2<|Dv.pM (j:=tc.1.toNat) (f:=0) Q (gg Q) Q (ab 1 Q) hak iB Q jh (Nat.le_of_ble_eq_true Q)<|el H fun tn ham H=>Dv.call Q (gg Q) (cL 107) Q (jS.c ham)<|go 4<|ce H ?_ ?_ <;> intro H
 ·
  refine so<|wg (cC.shut (p:=p0_) (m:=a0) (ga.1,ga.2.1,ga.2.2) hac (pm 4 [0,1,2,3])) fun _ _=>?_
  have H:=H.fU
  cases H.out; exact et () 2 [1,0] 1
 refine so<|WP.cond Q (fun _=>?_) nofun
 refine dg mX 8 128<|go 1<|Dv.bW hac Q T Q<|fp hac Q T Q sg<|gl 3 [0,3]<|gr H fun gu H=>?_
 have han:tc.1.toNat<a0.fl.length:=bC gu
 refine Dv.kQ Q T Q (ab 1 Q) Q fS iB jh gu.1 gu.2<|Dv.IZ (j:=tc.1.toNat) (f:=0) (jj:=1) a1 Q T Q Q (aZ (ak.K.one _)) iB jh Q Q han (Nat.le_of_ble_eq_true Q) Q (fun _=>fO kr)<|.fin ?_
 have H:=H.out
 refine ng (cC.shut (p:=p0_) (m:=(⟨a0.fl.set tc.1.toNat a1,a0.gQ⟩:cC)) (ga.1,ga.2.1,ga.2.2) hac (pm 4 [0,1,2,3])) fun _ _=>?_
 refine ns 2 [1,0] 0 ?_
 exact jn (true,!tn,true,(⟨a0.fl.set tc.1.toNat a1,a0.gQ⟩:cC)) H
theorem jt.c (h:jt.f a0=some r):Pt prog 44 [vS a0] (vS r):=by
 refine pf func44 h fun R0 F H=>?_
 refine so<|wr 3 0<|go 1<|gr H fun ga H=>nQ Q Q Q (iE ga)<|gq 1 ?_
 cases H.out; exact ek 0
theorem db.c (h:db.f k a0 a1=some r):Pt prog 45 [agg (lW.enc a0),agg (ak.enc a1)] (lr [agg (lW.enc r.1),vB r.2.1,vI r.2.2]):=by
 refine pf func45 h fun R0 F H=>?_
 refine wr 5 7<|Dv.box Q T Q cA nofun fun ba=>Dv.box Q T Q cA nofun fun bc=>al Q T Kq nofun fun bd=>go 2<|wr 3 0<|gl 1 [1]<|el H fun ta haa H=>cl Q (cL 103) Q (mH.c haa)<|go 1<|WP.seq<|wr 7 0<|lx 4 [1] ?_
 cases cc:(a1.aH != 3)
 rotate_left
 ·
  have H:=H.ct cc
  refine go 3<|WP.cond Q (fun _=>?_) nofun
  refine wr 4 2<|gl 1 [2]<|sy 0 ?_
  refine gq 2 ?_
  cases H.out; exact r3 i2 Q (.cons (au Q W40 Q c40 (ab 0 Q) Q) (.cons (aF Q) (.cons (aF Q) .nil)))
 have H:=H.cf cc
 refine go 3<|ce H ?_ ?_ <;> intro H
 ·
  refine wr 4 2<|gl 1 [2]<|sy 0 ?_
  refine gq 2 ?_
  cases H.out; exact r3 i2 Q (.cons (au Q W40 Q c40 (ab 0 Q) Q) (.cons (aF Q) (.cons (aF Q) .nil)))
 refine WP.skip<|wr 1 1<|al Q T Kq nofun fun be=>.fin<|so<|WP.zf H (fun qh:(Bool×Int×Bool×(List ak)×(List Int))×OV×OV=>qh.1) (fun qh=>[(3,eW bc),(4,eW bd),(8,eW be),(9,vB qh.1.1)]) (fun qh=>[aJ be 40 [eq qh.2.1.1,eq qh.2.2.1],aJ bd 40 [eU,eU],aJ bc 52 (ak.enc a1),aJ ba 40 (lW.enc a0),own ak.K qh.2.1.1 qh.1.2.2.2.1,own (bG .i64) qh.2.2.1 qh.1.2.2.2.2]++F) (fun qh H=>?_) (fun H=>?_)
 ·
  obtain ⟨pa,va,vb⟩:=qh
  refine WP.seq<|so<|cf H ?_ ?_ <;> intro H
  ·
   refine WP.skip<|wr 4 2<|gl 1 [0]<|sy 1 ?_
   refine go 2<|fz 4 [4,5,6] [1,1] ?_
   refine fz 4 [4,5,6] [1,1] ?_
   cases H.out; exact r4 i2 Q (.cons (au Q W40 Q c40 (ab 1 Q) Q) (.cons (aF Q) (.cons (aF Q) .nil)))
  refine wr 7 80<|gl 3 [0,2]<|Dv.lit ak.K ([a1]:List ak) (css:=[ak.enc a1]) Q T fS iB jh uQ Q dc dc Q ⟨(aZ (ak.K.one _)),T⟩ Q Q Q<|gr H fun ga H=>ap ak.K 4 ([a1]:List ak) bQ fS (.inr ⟨_,fS⟩) nI ga nofun fun vd=>?_
  refine go 1<|sx 0 Q T Q Q (cells_one bL) rT Q Q Q nofun ?_
  refine .fin<|rg 6 40<|gl 2 [0]<|Dv.lit (bG .i64) ([(-1)]:List Int) (css:=[[vI (-1)]]) Q T ry W3 c3 z3 Q dc dc Q ⟨(cells_one (ah Q)),T⟩ Q Q Q<|gr H fun gb H=>ap (bG .i64) 5 ([(-1)]:List Int) bQ ry (.inr ⟨_,ry⟩) Ji gb nofun fun ve=>?_
  refine go 1<|sx 0 Q T Q Q (cells_one bL) Lk Q Q Q nofun ?_
  refine .fin<|wr 4 2<|gl 1 [0]<|sy 1 ?_
  refine go 2<|fz 4 [4,5,6] [1,1] ?_
  refine fz 4 [4,5,6] [1,1] ?_
  cases H.out; exact r4 i2 Q (.cons (au Q W40 Q c40 (ab 1 Q) Q) (.cons (aF Q) (.cons (aF Q) .nil)))
 refine so<|WP.block<|wg (eK ak.K none) fun _ _=>?_
 refine wg (eK (bG .i64) none) fun _ _=>?_
 refine ws 6 [2,3,4,5,1,0] 0 ?_
 refine lq (fun j_ (pc:Bool×Int×(List ak)×(List Int)×OV×OV)=>db.l0 k a0 a1 j_ pc.1 pc.2.1 pc.2.2.1 pc.2.2.2.1) (false,0,([]:List ak),([]:List Int),lM,FU) H [2,3,4,8] (fun pc=>[(9,vB pc.1),(10,vI pc.2.1)]) (fun pc=>[(0,aJ be 40 [eq pc.2.2.2.2.1.1,eq pc.2.2.2.2.2.1]),(4,own ak.K pc.2.2.2.2.1.1 pc.2.2.1),(5,own (bG .i64) pc.2.2.2.2.2.1 pc.2.2.2.1)]) ?_
 rintro j_ ⟨xc,xd,xe,xf,vh,vi⟩ H
 rcases j_ with _ | ja
 ·
  exact (aW.no H).elim
 try dsimp only at H
 rw [db.l0] at H
 refine WP.seq<|wr 5 0<|gl 3 [3]<|Dv.eX Q T Q fS<|go 1<|cf H ?_ ?_ <;> intro H
 ·
  refine WP.exit ?_
  have H:=H.out
  exact jn ((xc,xd,decide (xd<(a0.fL.length:Int)),xe,xf),vh,vi) H
 refine WP.skip<|WP.seq<|WP.block<|wr 7 96<|gl 3 [3]<|gr H fun gi H=>Dv.jA Q T Q Q fS iB jh gi.1 gi.2<|ll Q T Q wj Q<|al Q T vQ nofun fun bg=>sy 0 ?_
 refine .fin<|WP.seq<|sL [0,3]<|ce H ?_ ?_ <;> intro H
 ·
  refine WP.seq<|wr 4 0<|gl 2 [3,0]<|el H fun tc hac H=>cl Q (cL 104) Q (jl.c hac)<|go 1<|cf H ?_ ?_ <;> intro H
  ·
   refine WP.skip<|WP.exit<|rg 3 0<|go 3<|ns 7 [0,1,2,3,4,5,6] 1 ?_
   exact bk ja (xc,av (xd+1),xe,xf,vh,vi) H
  refine wr 4 2<|gl 1 [4]<|sy 2 ?_
  refine gq 2 ?_
  have H:=H.fU
  cases H.out; exact rt i2 Q () 7 [0,1,2,3,4,5,6] 7 (.cons (au Q W40 Q c40 (ab 2 Q) Q) (.cons (aF Q) (.cons (aF Q) .nil)))
 refine WP.skip<|WP.lG H (fun qi:(Bool×Bool×(List ak)×(List Int))×OV×OV=>qi.1) (fun qi=>[(2,eW ba),(3,eW bc),(4,eW bd),(8,eW be),(9,vB qi.1.1),(10,vI xd),(11,eW bg)]) (fun qi=>[aJ bg 52 (ak.enc (ak.K.at a0.fL xd)),aJ be 40 [eq qi.2.1.1,eq qi.2.2.1],aJ bd 40 [eU,eU],aJ bc 52 (ak.enc a1),aJ ba 40 (lW.enc a0),own ak.K qi.2.1.1 qi.1.2.2.1,own (bG .i64) qi.2.2.1 qi.1.2.2.2]++F) (fun qi H=>?_) (fun H=>?_)
 ·
  obtain ⟨pe,vj,vk⟩:=qi
  refine wr 7 80<|gl 3 [1,0]<|Dv.lit ak.K ([ak.K.at a0.fL xd]:List ak) (css:=[ak.enc (ak.K.at a0.fL xd)]) Q T fS iB jh uQ Q dc dc Q ⟨(aZ (ak.K.one _)),T⟩ Q Q Q<|gr H fun gj H=>ap ak.K 5 ([ak.K.at a0.fL xd]:List ak) bQ fS (.inr ⟨_,fS⟩) nI gj nofun fun vl=>?_
  refine go 1<|sx 1 Q T Q Q (cells_one bL) rT Q Q Q nofun ?_
  refine .fin<|dg mX 11 1280<|gl 5 [1,4]<|gr H fun gk H=>Dv.jA Q T Q Q ry W3 c3 gk.1 gk.2<|mL Q T Q Hm Q<|Dv.lit (bG .i64) ([(bG .i64).at a0.fx xd]:List Int) (css:=[[vI ((bG .i64).at a0.fx xd)]]) Q T ry W3 c3 z3 Q dc dc Q ⟨(cells_one (ah Q)),T⟩ Q Q Q<|gr H fun gm H=>ap (bG .i64) 6 ([(bG .i64).at a0.fx xd]:List Int) bQ ry (.inr ⟨_,ry⟩) Ji gm pB fun vm=>?_
  refine go 1<|sx 1 Q T Q Q (cells_one bL) Lk Q Q Q pB ?_
  refine .fin<|rg 3 0<|go 3<|ns 7 [0,1,2,3,4,5,6] 1 ?_
  exact bk ja (pe.1,av (xd+1),pe.2.2.1++([ak.K.at a0.fL xd]:List ak),pe.2.2.2++([(bG .i64).at a0.fx xd]:List Int),vl,vm) H
 refine wr 9 0<|gp 3 ?_
 cases cg:!xc
 ·
  have H:=H.cf cg
  refine go 6<|WP.cond Q nofun (fun _=>?_)
  refine WP.skip ?_
  have H:=H.out
  exact jn ((xc,false,xe,xf),vh,vi) H
 have H:=H.ct cg
 refine gl 6 [3,0]<|cf H ?_ ?_ <;> intro H
 ·
  refine WP.skip ?_
  have H:=H.out
  exact jn ((xc,dI a1.ai ((ak.K.at a0.fL xd).ai),xe,xf),vh,vi) H
 refine wr 7 80<|gl 3 [1,3]<|Dv.lit ak.K ([a1]:List ak) (css:=[ak.enc a1]) Q T fS iB jh uQ Q dc dc Q ⟨(aZ (ak.K.one _)),T⟩ Q Q Q<|gr H fun gn H=>ap ak.K 5 ([a1]:List ak) bQ fS (.inr ⟨_,fS⟩) nI gn nofun fun vn=>?_
 refine go 1<|sx 1 Q T Q Q (cells_one bL) rT Q Q Q nofun ?_
 refine .fin<|wr 6 40<|gl 2 [1]<|Dv.lit (bG .i64) ([(-1)]:List Int) (css:=[[vI (-1)]]) Q T ry W3 c3 z3 Q dc dc Q ⟨(cells_one (ah Q)),T⟩ Q Q Q<|gr H fun gu H=>ap (bG .i64) 6 ([(-1)]:List Int) bQ ry (.inr ⟨_,ry⟩) Ji gu nofun fun vo=>?_
 refine go 1<|sx 1 Q T Q Q (cells_one bL) Lk Q Q Q nofun ?_
 refine .fin<|rg 1 0<|gq 1 ?_
 have H:=H.out
 exact jn ((true,dI a1.ai ((ak.K.at a0.fL xd).ai),xe++([a1]:List ak),xf++([(-1)]:List Int)),vn,vo) H
theorem ax.c (h:ax.f k a0 a1 a2=some r):Pt prog 175 [sl ak.K a0,vS a1,pN a2] (lr [vI r.1,vB r.2]):=by
 refine pf func175 h fun R0 F H=>?_
 refine so<|wr 3 0<|go 1<|Dv.eX Q T Q fS<|go 1<|so<|sq H id [0,1,2,8] (fun pa=>[(9,vI pa.1)]) (fun _=>[]) (fun pa H=>?_) (fun H=>?_)
 ·
  refine wr 16 0<|gp 5 ?_
  cases cc:decide (pa.1<(a0.length:Int))
  ·
   have H:=H.cf cc
   refine gq 11 ?_
   cases H.out; exact ek 0
  have H:=H.ct cc
  refine go 3<|gr H fun ga H=>Dv.jA Q (gg Q) Q Q fS iB jh ga.1 ga.2<|ll Q (gg Q) Q wj Q<|go 1<|el H fun ta haa H=>Dv.rZ (ret:=vI ta) Q (gg Q) Q Q ⟨_,_,_,haa,Q,Q⟩<|gq 4 ?_
  cases H.out; exact ek 0
 refine WP.block<|ws 0 [] 0 ?_
 refine lq (fun j_ (pc:Int×Int)=>ax.l0 k a0 a1 a2 j_ pc.1 pc.2) (0,(a0.length:Int)) H [0,1,2,8] (fun pc=>[(9,vI pc.1),(10,vI pc.2)]) (fun _=>[]) ?_
 rintro j_ ⟨xc,xd⟩ H
 rcases j_ with _ | ja
 ·
  exact (aW.no H).elim
 try dsimp only at H
 rw [ax.l0] at H
 refine WP.seq<|so<|cf H ?_ ?_ <;> intro H
 ·
  refine WP.exit ?_
  have H:=H.out
  exact jn (xc,xd,decide (xc<xd)) H
 refine WP.skip<|WP.block<|wr 7 0<|go 3<|Dv.H4 Q T Q W3 HI<|nQ Q Q Q (Ck dc)<|Dv.H4 Q T Q HI W3<|go 1<|wr 8 0<|go 3<|gr H fun gb H=>Dv.jA Q T Q Q fS iB jh gb.1 gb.2<|ll Q T Q wj Q<|go 1<|el H fun tc hac H=>Dv.rZ (ret:=vI tc) Q T Q Q ⟨_,_,_,hac,Q,Q⟩<|go 1<|cf H ?_ ?_ <;> intro H
 ·
  exact rg 2 0<|go 2<|bk ja (xc,av ((IntKind.u64.wrap (av (xc+xd))).fdiv 2)) H
 exact rg 3 0<|go 3<|bk ja (av ((av ((IntKind.u64.wrap (av (xc+xd))).fdiv 2))+1),xd) H
theorem dD.c (h:dD.f a0 a1=some r):Pt prog 176 [agg (ak.enc a0),vS a1] (vI r):=by
 refine pf func176 h fun R0 F H=>?_
 refine wr 2 1<|Dv.box Q T Q cA nofun fun ba=>go 1<|wr 5 0<|gl 3 [0]<|el H fun ta haa H=>cl Q (cL 65) Q (aC.c haa)<|gq 1 ?_
 cases H.out; exact ek 1
theorem dz.c {v0_0 v0_1:OV} {b0_:Nat} (h:dz.f k a0 a1=some r):Tr prog 112 [eW b0_,vS a1] [aJ b0_ 192 [eq v0_0.1,eq v0_1.1],own ak.K v0_0.1 a0.fl] (γ:=Unit) (fun _=>True) (fun g=>lr [vI r.1,vB r.2]) (fun g=>[aJ b0_ 192 [eq v0_0.1,eq v0_1.1],own ak.K v0_0.1 a0.fl]):=by
 refine tf func112 h fun R0 F H=>?_
 refine so<|wr 10 0<|gl 5 [0]<|el H fun ta haa H=>oU (B:=[own ak.K v0_0.1 a0.fl]) 2 [1,0] (cL 175) (Pt.Bn _ (Pt.jZ (ax.c haa) (.cons cK (.cons cK (.cons (uA (cL 176) (by rintro _ _ ⟨a0_,a1_,r_,h_,rfl,rfl⟩; exact dD.c h_)) .nil)))) (.cons (sG (ab 0 Q)) (.cons wC (.cons wC .nil))) (AR (oV o5 (oV o5 xp)))) ?_
 refine eh Q T Q Q<|eh Q T Q Q<|gq 2 ?_
 cases H.out; exact et () 2 [0,1] 0
theorem dW.c (h:dW.f a0 a1=some r):Pt prog 125 [agg (ak.enc a0),vI a1] (vI r):=by
 refine pf func125 h fun R0 F H=>?_
 refine wr 2 1<|Dv.box Q T Q cA nofun fun ba=>go 1<|WP.seq<|sL [0]<|WP.block<|WP.seq<|WP.block<|WP.seq<|WP.block<|WP.seq<|WP.seq<|so<|cf H ?_ ?_ <;> intro H
 ·
  refine WP.skip<|so<|cf H ?_ ?_ <;> intro H
  ·
   refine WP.skip<|WP.exit<|sp ?_
   cases H.out; exact ek 1
  refine WP.exit<|WP.seq<|sL [0]<|ce H ?_ ?_ <;> intro H
  ·
   refine sp ?_
   cases H.out; exact ek 1
  refine WP.skip<|WP.exit<|sp ?_
  cases H.out; exact ek 1
 refine WP.exit<|sL [0]<|ce H ?_ ?_ <;> intro H
 ·
  refine sp ?_
  cases H.out; exact ek 1
 refine WP.skip<|WP.seq<|sL [0]<|ce H ?_ ?_ <;> intro H
 ·
  refine sp ?_
  cases H.out; exact ek 1
 refine WP.skip<|WP.exit<|sp ?_
 cases H.out; exact ek 1
theorem bH.c (h:bH.f k a0 a1=some r):Pt prog 113 [agg (ak.enc a0),vI a1] (lr [vI r.1,vB r.2]):=by
 refine pf func113 h fun R0 F H=>?_
 refine wr 3 1<|Dv.box Q T Q cA nofun fun ba=>go 2<|sr H id [] (fun _=>[]) (fun _=>[]) (fun pa H=>?_) (fun H=>?_)
 ·
  refine sp ?_
  cases H.out; exact ek 1
 refine wr 2 0<|Dv.blda (qs:=[vI 30,vI 90]) (css:=[[vI 30],[vI 90]]) Q T W303 W3 c3 z303 Q ⟨(cells_one (ah Q)),⟨(cells_one (ah Q)),T⟩⟩ Q Q<|go 1<|WP.block<|ws 1 [0] 0 ?_
 refine lq (fun j_ (pc:Int)=>bH.l0 k a0 a1 j_ pc) 0 H [1,2,9] (fun pc=>[(10,vI pc)]) (fun _=>[]) ?_
 rintro j_ xc H
 rcases j_ with _ | ja
 ·
  exact (aW.no H).elim
 try dsimp only at H
 rw [bH.l0] at H
 refine so<|WP.seq<|cf H ?_ ?_ <;> intro H
 ·
  refine WP.exit ?_
  have H:=H.out
  exact jn (xc,decide (xc<2)) H
 refine WP.skip<|WP.seq<|WP.block<|wr 2 0<|gr H fun ga H=>Dv.ixa (Kd:=(bG .i64)) (xs:=([30,90]:List Int)) Q T Q Q Q W303 W3 Q c3 Q Q ga.1 ga.2 Q<|go 1<|sL [0]<|wd mX 13 0<|gp 4 ?_
 cases cc:decide (a1<(av (a0.aT+((bG .i64).at ([30,90]:List Int) xc))))
 ·
  have H:=H.cf cc
  refine go 9<|WP.cond Q nofun (fun _=>?_)
  exact WP.skip<|rg 2 0<|go 2<|bk ja (av (xc+1)) H
 have H:=H.ct cc
 refine gl 3 [0]<|el H fun ta haa H=>Dv.call Q (gg Q) (cL 125) Q (dW.c haa)<|gl 2 [0]<|el H fun tc hac H=>Dv.call Q (gg Q) (cL 125) Q (dW.c hac)<|go 2<|cf H ?_ ?_ <;> intro H
 ·
  exact WP.skip<|rg 2 0<|go 2<|bk ja (av (xc+1)) H
 refine sp ?_
 have H:=H.fU
 cases H.out; exact ek 1
theorem eI.c {p0_:OV} (h:eI.f k a0 a1=some r):Tr prog 46 [eq p0_.1,agg (ak.enc a1)] [cJ.O p0_ a0] (γ:=Unit) (fun _=>True) (fun g=>lr [vB r.1,vI r.2.1]) (fun g=>[cJ.O p0_ r.2.2]):=by
 refine tf func46 h fun R0 F H=>?_
 refine wr 3 1<|Dv.box Q T Q cA nofun fun ba=>go 2<|WP.seq<|wr 8 0<|lx 4 [0] ?_
 cases cc:(a1.aH != 3)
 rotate_left
 ·
  have H:=H.ct cc
  refine go 4<|WP.cond Q (fun _=>?_) nofun
  refine sp ?_
  cases H.out; exact et () 2 [0,1] 1
 have H:=H.cf cc
 refine gl 1 [0]<|el H fun ta haa H=>Dv.call Q (gg Q) (cL 105) Q (mD.c haa)<|go 2<|ce H ?_ ?_ <;> intro H
 ·
  refine sp ?_
  cases H.out; exact et () 2 [0,1] 1
 refine WP.skip<|wr 9 0<|gl 3 [0]<|vg (cJ.iU 1 Q) fun ga hac=>?_
 refine el H fun tc had H=>oU 4 [0,1,2,3] (cL 112) (Tr.jZ (dz.c had (b0_:=ga.1) (v0_0:=ga.2.1) (v0_1:=ga.2.2)) (.cons (iM hac) (.cons cK .nil))) ?_
 refine go 1<|eh Q T Q Q<|eh Q T Q Q<|go 2<|WP.zf H id (fun pa=>[(0,eq p0_.1),(3,eW ba)]) (fun pa=>[aJ ba 52 (ak.enc a1),cJ.O p0_ pa.2.2.2]++F) (fun pa H=>?_) (fun H=>?_)
 ·
  refine WP.seq<|wg (cJ.iU 1 Q) fun gb hae=>?_
  refine dg mX 7 64<|go 1<|Dv.bW hae Q T Q<|fp hae Q T Q Cw<|gl 3 [0,3]<|el H fun te haf H=>cx 4 [2,0,1,3] (cL 109) (du.c haf (p0_:=gb.2.2)) pC fun _ _=>?_
  refine .fin<|WP.seq<|wr 7 0<|gl 1 [3]<|el H fun tg hag H=>cl Q (cL 113) Q (bH.c hag)<|go 1<|eh Q T Q Q<|eh Q T Q Q<|go 2<|so<|cf H ?_ ?_ <;> intro H
  ·
   refine WP.skip<|so<|wg (cJ.shut (p:=p0_) (m:=(⟨pa.2.2.2.fl,te.2⟩:cJ)) (gb.1,gb.2.1,gb.2.2) hae (pm 4 [1,2,0,3])) fun _ _=>?_
   cases H.out; exact et () 2 [1,0] 1
  refine dg mX 8 128<|go 1<|Dv.bW hae Q T Q<|fp hae Q T Q Cw<|gl 4 [1,3]<|el H fun tj hah H=>cx 4 [0,1,2,3] (cL 110) (eZ.c hah (p0_:=gb.2.2)) pC fun _ _=>?_
  refine .fin<|so<|wg (cJ.shut (p:=p0_) (m:=(⟨pa.2.2.2.fl,tj⟩:cJ)) (gb.1,gb.2.1,gb.2.2) hae (pm 4 [1,2,0,3])) fun _ _=>?_
  cases H.out; exact et () 2 [1,0] 1
 refine WP.block<|wd mX 14 0<|gp 2 ?_
 cases cg:tc.2
 ·
  have H:=H.cf cg
  refine go 12<|WP.cond Q nofun (fun _=>?_)
  refine so<|WP.cond Q nofun (fun _=>?_)
  refine dg mX 12 2304<|go 2<|Dv.bW hac Q T Q<|fp hac Q T Q uf<|gl 3 [0,3]<|Dv.lit ak.K ([a1]:List ak) (css:=[ak.enc a1]) Q T fS iB jh uQ Q dc dc Q ⟨(aZ (ak.K.one _)),T⟩ Q Q Q<|el H fun tm hai H=>Dv.zh (pre:=[own ak.K ga.2.1.1 a0.fl]) (F:=[aJ ga.1 192 [eq ga.2.1.1,eq ga.2.2.1],aN.O ga.2.2 a0.fg,aJ ba 52 (ak.enc a1)]++F) (fun gi:OV=>[own ak.K gi.1 tm,aJ ga.1 192 [eq ga.2.1.1,eq ga.2.2.1],aN.O ga.2.2 a0.fg,aJ ba 52 (ak.enc a1)]++F) Q T (cL 108) Q (cV.c hai (p0_:=ga.2.1)) (my (L:=[aJ ga.1 192 [eq ga.2.1.1,eq ga.2.2.1],own ak.K ga.2.1.1 a0.fl,aN.O ga.2.2 a0.fg,aJ ba 52 (ak.enc a1)]) (F:=F) [1,0,2,3] Q Q Q) Q pE (fun gi _=>?_)
  refine Dv.bW hac Q T Q<|fp hac Q T Q uf<|sx 1 Q T Q Q (cells_one bL) rT Q Q Q pB ?_
  refine .fin ?_
  have H:=H.out
  refine ng (cJ.shut (p:=p0_) (m:=(⟨tm,a0.fg⟩:cJ)) (ga.1,gi,ga.2.2) hac (pm 4 [1,0,2,3])) fun _ _=>?_
  refine ns 2 [1,0] 0 ?_
  exact jn (false,false,false,(⟨tm,a0.fg⟩:cJ)) H
 have H:=H.ct cg
 refine gl 2 [3]<|Dv.bW hac Q (gg Q) Q<|fp hac Q (gg Q) Q uf<|gl 2 [0]<|gr H fun gj H=>?_
 have haj:tc.1.toNat<a0.fl.length:=bC gj
 refine Dv.kQ Q (gg Q) Q (ab 1 Q) Q fS iB jh gj.1 gj.2<|Dv.pM (j:=tc.1.toNat) (f:=0) Q (gg Q) Q (ab 1 Q) haj iB Q jh (Nat.le_of_ble_eq_true Q)<|el H fun tn hak H=>Dv.call Q (gg Q) (cL 107) Q (jS.c hak)<|go 3<|ce H ?_ ?_ <;> intro H
 ·
  refine so<|wg (cJ.shut (p:=p0_) (m:=a0) (ga.1,ga.2.1,ga.2.2) hac (pm 4 [0,1,2,3])) fun _ _=>?_
  have H:=H.fU
  cases H.out; exact et () 2 [1,0] 1
 refine so<|WP.cond Q (fun _=>?_) nofun
 refine dg mX 8 128<|go 1<|Dv.bW hac Q T Q<|fp hac Q T Q uf<|gl 3 [0,3]<|gr H fun gk H=>?_
 have ham:tc.1.toNat<a0.fl.length:=bC gk
 refine Dv.kQ Q T Q (ab 1 Q) Q fS iB jh gk.1 gk.2<|Dv.IZ (j:=tc.1.toNat) (f:=0) (jj:=1) a1 Q T Q Q (aZ (ak.K.one _)) iB jh Q Q ham (Nat.le_of_ble_eq_true Q) Q (fun _=>fO kr)<|.fin ?_
 have H:=H.out
 refine ng (cJ.shut (p:=p0_) (m:=(⟨a0.fl.set tc.1.toNat a1,a0.fg⟩:cJ)) (ga.1,ga.2.1,ga.2.2) hac (pm 4 [0,1,2,3])) fun _ _=>?_
 refine ns 2 [1,0] 0 ?_
 exact jn (true,!tn,true,(⟨a0.fl.set tc.1.toNat a1,a0.fg⟩:cJ)) H
theorem jI.c (h:jI.f a0=some r):Pt prog 47 [vS a0] (vS r):=by
 refine pf func47 h fun R0 F H=>?_
 refine so<|wr 3 0<|go 1<|gr H fun ga H=>nQ Q Q Q (iE ga)<|gq 1 ?_
 cases H.out; exact ek 0
theorem oa.c {b off:Nat} {bT:TypeId} {qs:Cs} {n:Int} (h0:qs[off]? = some (vI n)):Tr prog 178 [eq (.pointer (some ⟨b,off,none⟩))] [aJ b bT qs] (γ:=Unit) (fun _=>True) (fun _=>vI n) (fun _=>[aJ b bT qs]):=by
 exact Tr.body func178 (c:=_) Q ntmps178 (Nat.le_of_ble_eq_true Q) fun R0 F=>WP.seq<|WP.rb [(0,false)] kr<|go 1<|WP.seq<|WP.rb [(0,false),(1,false),(2,false),(3,false),(4,false)] kr<|go 3<|Dv.cextr (A:=aJ b bT qs) Q T Q (Jl h0 func237 kr Q xf237 xg237) (ab 0 Q)<|go 1<|rt i2 Q () 1 [0] 0 (.cons (aF Q) .nil)
theorem j7.c {b off:Nat} {bT:TypeId} {qs:Cs} {n m:Int} (h0:qs[off]? = some (vI n)):Tr prog 236 [eq (.pointer (some ⟨b,off,none⟩)),vI n,vI m] [aJ b bT qs] (γ:=Unit) (fun _=>True) (fun _=>vB true) (fun _=>[aJ b bT (qs.set off (vI m))]):=by
 exact Tr.body func236 (c:=_) Q ntmps236 (Nat.le_of_ble_eq_true Q) fun R0 F=>WP.seq<|WP.rb [(0,false)] kr<|go 1<|WP.seq<|WP.rb [(0,false),(1,false),(2,false),(3,false),(4,false),(5,true),(6,false)] kr<|go 5<|Dv.JV (jj:=0) (qs:=qs) Q T Q (Le h0 func265 kr Q xf265 xg265) Q nofun<|go 1<|rt i2 Q () 1 [0] 0 (.cons (aF Q) .nil)
theorem clock_Counter_Add.c {p0_:OV} (h:clock_Counter_Add.f k a0 a1=some r):Tr prog 177 [eq p0_.1,vI a1] [lh.O p0_ a0] (γ:=Unit) (fun _=>True) (fun g=>lr [vI r.1,vI r.2.1]) (fun g=>[lh.O p0_ r.2.2]):=by
 refine tf func177 h fun R0 F H=>?_
 refine so<|WP.seq<|so<|ce H ?_ ?_ <;> intro H
 ·
  refine sp ?_
  cases H.out; exact et () 1 [0] 0
 refine WP.skip<|WP.block<|ws 1 [0] 0 ?_
 refine lq (fun j_ (pa:Unit)=>clock_Counter_Add.l0 k a0 a1 j_) () H [0,1] (fun _=>[]) (fun _=>[]) ?_
 rintro j_ ⟨⟩ H
 rcases j_ with _ | ja
 ·
  exact (aW.no H).elim
 try dsimp only at H
 rw [clock_Counter_Add.l0] at H
 refine WP.block<|wr 5 0<|go 1<|Dv.qz lh.nn Q T Q (ab 0 Q)<|vg (lh.iU 0 Q) fun ga haa=>?_
 refine fp haa Q T Q yj<|oU 1 [0] (cL 178) (oa.c (b:=ga) (off:=0) (bT:=257) (qs:=[vI a0.fn.fv,vI a0.dX]) (n:=a0.fn.fv) Q) ?_
 refine go 1<|WP.seq<|wr 10 0<|gp 3 ?_
 cases cc:decide (0<a1)
 ·
  have H:=H.cf cc
  refine go 7<|WP.cond Q nofun (fun _=>?_)
  refine WP.skip<|wr 5 0<|go 1<|Dv.bW haa Q T Q<|fp haa Q T Q rK<|gl 2 [0]<|WP.lG H id (fun pc=>[(0,eq p0_.1),(1,vI a1),(6,vI a0.fn.fv),(7,vI pc)]) (fun pc=>[lh.O p0_ a0]++F) (fun pc H=>?_) (fun H=>?_)
  rotate_left
  ·
   refine wr 8 0<|go 2<|Dv.bW haa Q T Q<|fp haa Q T Q rK<|gl 4 [0]<|cf H ?_ ?_ <;> intro H
   ·
    refine WP.skip ?_
    have H:=H.out
    refine ng (lh.shut (p:=p0_) (m:=a0) ga haa (pm 1 [0])) fun _ _=>?_
    exact jn a0.dX H
   refine rg 4 0<|gq 4 ?_
   have H:=H.out
   refine ng (lh.shut (p:=p0_) (m:=a0) ga haa (pm 1 [0])) fun _ _=>?_
   exact jn (av (a0.fn.fv+a1)) H
  refine wr 10 256<|gp 3 ?_
  cases cg:(a1==0)
  rotate_left
  ·
   have H:=H.ct cg
   refine go 5<|Dv.CX Q ⟨_,_,Q,Q,.inl Q⟩ nofun<|go 1<|WP.cond Q (fun _=>?_) nofun
   refine sp ?_
   cases H.out; exact et () 1 [0] 0
  have H:=H.cf cg
  refine go 1<|Dv.qz lh.nn Q (gg Q) Q (ab 0 Q)<|vg (lh.iU 0 Q) fun gb hac=>?_
  refine fp hac Q (gg Q) Q yj<|go 2<|cx 1 [0] (cL 236) (j7.c (b:=gb) (off:=0) (bT:=257) (qs:=[vI a0.fn.fv,vI a0.dX]) (n:=a0.fn.fv) (m:=pc) Q) nofun fun _ _=>?_
  refine go 1<|WP.cond Q (fun _=>?_) nofun
  refine so<|wg (lh.shut (p:=p0_) (m:=(⟨(⟨pc⟩:BK),a0.dX⟩:lh)) gb hac (pm 1 [0])) fun _ _=>?_
  cases H.out; exact et () 1 [0] 0
 have H:=H.ct cc
 refine go 2<|Dv.bW haa Q (gg Q) Q<|fp haa Q (gg Q) Q rK<|gl 3 [0]<|ce H ?_ ?_ <;> intro H
 ·
  refine so<|wg (lh.shut (p:=p0_) (m:=a0) ga haa (pm 1 [0])) fun _ _=>?_
  cases H.out; exact et () 1 [0] 0
 refine WP.skip<|wr 5 0<|go 1<|Dv.bW haa Q T Q<|fp haa Q T Q rK<|gl 2 [0]<|WP.lG H id (fun pe=>[(0,eq p0_.1),(1,vI a1),(6,vI a0.fn.fv),(7,vI pe)]) (fun pe=>[lh.O p0_ a0]++F) (fun pe H=>?_) (fun H=>?_)
 rotate_left
 ·
  refine wr 8 0<|go 2<|Dv.bW haa Q T Q<|fp haa Q T Q rK<|gl 4 [0]<|cf H ?_ ?_ <;> intro H
  ·
   refine WP.skip ?_
   have H:=H.out
   refine ng (lh.shut (p:=p0_) (m:=a0) ga haa (pm 1 [0])) fun _ _=>?_
   exact jn a0.dX H
  refine rg 4 0<|gq 4 ?_
  have H:=H.out
  refine ng (lh.shut (p:=p0_) (m:=a0) ga haa (pm 1 [0])) fun _ _=>?_
  exact jn (av (a0.fn.fv+a1)) H
 refine wr 10 256<|gp 3 ?_
 cases ci:(a1==0)
 rotate_left
 ·
  have H:=H.ct ci
  refine go 5<|Dv.CX Q ⟨_,_,Q,Q,.inl Q⟩ nofun<|go 1<|WP.cond Q (fun _=>?_) nofun
  refine sp ?_
  cases H.out; exact et () 1 [0] 0
 have H:=H.cf ci
 refine go 1<|Dv.qz lh.nn Q (gg Q) Q (ab 0 Q)<|vg (lh.iU 0 Q) fun gi had=>?_
 refine fp had Q (gg Q) Q yj<|go 2<|cx 1 [0] (cL 236) (j7.c (b:=gi) (off:=0) (bT:=257) (qs:=[vI a0.fn.fv,vI a0.dX]) (n:=a0.fn.fv) (m:=pe) Q) nofun fun _ _=>?_
 refine go 1<|WP.cond Q (fun _=>?_) nofun
 refine so<|wg (lh.shut (p:=p0_) (m:=(⟨(⟨pe⟩:BK),a0.dX⟩:lh)) gi had (pm 1 [0])) fun _ _=>?_
 cases H.out; exact et () 1 [0] 0
theorem fG.c {p0_:OV} (h:fG.f k a0=some r):Tr prog 114 [eq p0_.1] [lh.O p0_ a0] (γ:=Unit) (fun _=>True) (fun g=>lr [vI r.1,vI r.2.1]) (fun g=>[lh.O p0_ r.2.2]):=by
 refine tf func114 h fun R0 F H=>?_
 refine so<|wr 6 2<|go 1<|el H fun ta haa H=>cx 1 [0] (cL 177) (clock_Counter_Add.c haa (p0_:=p0_)) nofun fun _ _=>?_
 refine eh Q T Q Q<|eh Q T Q Q<|gq 2 ?_
 cases H.out; exact et () 1 [0] 0
theorem bz.c (h:bz.f k a0 a1=some r):Pt prog 115 [sl aE a0,vS a1] (vI r):=by
 refine pf func115 h fun R0 F H=>?_
 refine so<|sr H id [] (fun _=>[]) (fun _=>[]) (fun pa H=>?_) (fun H=>?_)
 ·
  refine sp ?_
  cases H.out; exact ek 0
 refine wr 3 0<|go 1<|Dv.eX Q T Q eb<|go 1<|WP.block<|ws 0 [] 0 ?_
 refine lq (fun j_ (pc:Int)=>bz.l0 k a0 a1 j_ pc) 0 H [0,1,7] (fun pc=>[(8,vI pc)]) (fun _=>[]) ?_
 rintro j_ xc H
 rcases j_ with _ | ja
 ·
  exact (aW.no H).elim
 try dsimp only at H
 rw [bz.l0] at H
 refine so<|WP.seq<|cf H ?_ ?_ <;> intro H
 ·
  refine WP.exit ?_
  have H:=H.out
  exact jn (xc,decide (xc<(a0.length:Int))) H
 refine WP.skip<|WP.seq<|WP.block<|so<|wr 6 0<|go 3<|gr H fun ga H=>Dv.jA Q T Q Q eb W9 c9 ga.1 ga.2<|mL Q T Q qN Q<|go 1<|cf H ?_ ?_ <;> intro H
 ·
  exact WP.skip<|rg 2 0<|go 2<|bk ja (av (xc+1)) H
 refine sp ?_
 have H:=H.fU
 cases H.out; exact ek 0
theorem dU.c {a1 a2:Int} {p0_:OV} (h:dU.f a0 a1 a2=some r):Tr prog 116 [eq p0_.1,vI a1,vI a2] [own aE p0_.1 a0] (γ:=OV) (fun _=>True) (fun g=>eq g.1) (fun g=>[own aE g.1 r]):=by
  unfold dU.f at h
  obtain ⟨⟨h1,h2,h3⟩,h5⟩:=(aW.of h).an
  obtain rfl:=aW.out h5
  clear h h5
  obtain ⟨i,rfl⟩:=Int.eq_ofNat_of_zero_le h1
  obtain ⟨j,rfl⟩:=Int.eq_ofNat_of_zero_le (show (0:Int)≤a2 by omega)
  have hij:i≤j:=om
  have hj:j≤a0.length:=om
  obtain ⟨v,hv⟩:=p0_
  rw [Int.toNat_natCast,Int.toNat_natCast]
  refine Tr.body func116 (c:=_) Q ntmps116 (Nat.le_of_ble_eq_true Q) fun R0 F=>?_
  refine so<|wr 6 0<|go 4<|Dv.kZ (Kd:=aE) (xs:=a0) (v:=v) Q T Q (ab 0 Q) eb<|Dv.sl3 (Kd:=aE) Q T Q (ab 0 Q) eb W9 c9 (eT Q) (eT Q) (eT Q) hij hj<|.fin<|WP.seq<|so<|WP.cond Q (fun c0=>?_) (fun c0=>?_)
  · have e1:i=j:=by have:=beq_iff_eq.1 c0; omega
    subst e1
    rw [List.take_append_drop]
    refine sp ?_
    exact WP.B4 (fun _ _ h=>h) Q (⟨v,hv⟩:OV) T (.cons (aF Q) .nil) Q (uw (L:=[own aE v a0]) (F:=F) [0] 0 Q Q Q)
  have hlt:i<j:=by
    have:¬ ((i:Int)=(j:Int)):=by simpa using c0
    omega
  have hzl:(a0.take i++a0.drop j++a0.drop (i+(a0.length-j))).length=a0.length:=by simp only [List.length_append,List.length_take,List.length_drop]; omega
  have hpl:(i+(a0.length-j))<(a0.take i++a0.drop j++a0.drop (i+(a0.length-j))).length:=by rw [hzl]; omega
  have hfin:((a0.take i++a0.drop j++a0.drop (i+(a0.length-j))).take (i+(a0.length-j))++List.replicate ((a0.take i++a0.drop j++a0.drop (i+(a0.length-j))).length-(i+(a0.length-j))) eE).take (i+(a0.length-j))=a0.take i++a0.drop j:=by
    have hl:(a0.take i++a0.drop j).length=(i+(a0.length-j)):=by rw [List.length_append,List.length_take,List.length_drop]; omega
    rw [List.take_append,List.take_take,Nat.min_self,List.take_left' hl]
    have:(i+(a0.length-j))-(a0.take i++a0.drop j).length=0:=om
    rw [this,List.take_zero,List.append_nil]
  refine WP.skip<|wr 3 0<|go 1<|Dv.kZ (Kd:=aE) (xs:=a0) (v:=v) Q T Q (ab 0 Q) eb<|go 1<|wd mX 8 64<|go 2<|Dv.slpf (Kd:=aE) Q T Q (ab 0 Q) eb W9 c9 (eT Q) (Nat.le_trans hij hj)<|go 2<|Dv.slt (Kd:=aE) (p:=j) Q T Q (ab 0 Q) eb W9 c9 (eT Q) hj<|Dv.apt (Kd:=aE) (jj:=0) Q T Q Q Q eb eb W9 c9 ⟨hlt,hj⟩ (fun _=>fO kr)<|gq 1 ?_
  refine wr 6 32<|go 2<|Dv.lenp (Kd:=aE) (xs:=(a0.take i++a0.drop j++a0.drop (i+(a0.length-j)))) Q T Q (ab 0 Q) eb<|go 1<|Dv.slpt (Kd:=aE) (xs:=(a0.take i++a0.drop j++a0.drop (i+(a0.length-j)))) (p:=(i+(a0.length-j))) (q:=a0.length) Q T Q (ab 0 Q) eb W9 c9 (eT Q) (eT Q) om (Nat.le_of_eq hzl.symm)<|Dv.clrt (Kd:=aE) (jj:=0) eE Q T ((show opv _ _=some (eq (tlv _ v a0.length (i+(a0.length-j)))) from Q).trans (congrArg (fun z=>some (eq (tlv _ v z (i+(a0.length-j))))) hzl.symm)) eb z9 Q Q (fun u hu=>by simp [Value.cells] at hu; subst hu; rfl) hpl Q nofun<|.fin<|sp ?_
  refine WP.gh (l':=fun _:Unit=>[own aE (pfv v (i+(a0.length-j))) (a0.take i++a0.drop j)]++F) (iZ (ok:=fun _=>True) (fun R w h=>by obtain ⟨_,_,h2⟩:=EC (m:=(i+(a0.length-j))) 0 rfl (by rw [List.length_append,List.length_take,List.length_replicate]; omega) R w h; rw [hfin] at h2; exact ⟨(),T,h2⟩)) (fun _ _=>?_)
  exact WP.B4 (fun _ _ h=>h) Q (⟨pfv v (i+(a0.length-j)),CC hv⟩:OV) T (.cons (aF Q) .nil) Q (uw (L:=[own aE (pfv v (i+(a0.length-j))) (a0.take i++a0.drop j)]) (F:=F) [0] 0 Q Q Q)
theorem iw.c {p0_:OV} (h:iw.f k a0 a1=some r):Tr prog 48 [eq p0_.1,vS a1] [cI.O p0_ a0] (γ:=Unit) (fun _=>True) (fun g=>lr [vI r.1,vI r.2.1]) (fun g=>[cI.O p0_ r.2.2]):=by
 refine tf func48 h fun R0 F H=>?_
 refine so<|wr 10 16<|go 1<|Dv.qz cI.nn Q T Q (ab 0 Q)<|vg (cI.iU 0 Q) fun ga haa=>?_
 refine fp haa Q T Q Ce<|gl 1 [0]<|el H fun ta hac H=>cx 4 [1,0,2,3] (cL 114) (fG.c hac (p0_:=ga.2.1)) nofun fun _ _=>?_
 refine go 1<|eh Q T Q Q<|eh Q T Q Q<|go 2<|WP.seq<|so<|ce H ?_ ?_ <;> intro H
 ·
  refine so<|wg (cI.shut (p:=p0_) (m:=(⟨ta.2.2,a0.eO,a0.oo⟩:cI)) (ga.1,ga.2.1,ga.2.2.1,ga.2.2.2) haa (pm 4 [1,0,2,3])) fun _ _=>?_
  cases H.out; exact et () 1 [0] 0
 refine WP.skip<|WP.lG H id (fun pa=>[(0,eq p0_.1),(1,vS a1),(6,vI ta.1)]) (fun pa=>[cI.O p0_ pa]++F) (fun pa H=>?_) (fun H=>?_)
 ·
  refine wr 11 1152<|go 2<|Dv.qz cI.nn Q T Q (ab 0 Q)<|vg (cI.iU 0 Q) fun gb had=>?_
  refine fp had Q T Q nj<|gl 2 [0]<|Dv.lit aE ([a1]:List BA) (css:=[[vS a1]]) Q T eb W9 c9 z9 Q dc dc Q ⟨(cells_one (ah Q)),T⟩ Q Q Q<|gr H fun gi H=>ap aE 2 ([a1]:List BA) bQ eb (.inr ⟨_,eb⟩) zE gi nofun fun va=>?_
  refine Dv.bW had Q T Q<|fp had Q T Q nj<|sx 0 Q T Q Q (cells_one bL) Jb Q Q Q nofun ?_
  refine .fin<|wr 7 64<|go 1<|Dv.bW had Q T Q<|fp had Q T Q xO<|gl 3 [0]<|Dv.mup (jj:=3) ta.1 Q T Q Q Q Q tU (dR W9) nofun<|.fin<|so<|wg (cI.shut (p:=p0_) (m:=(⟨pa.iS,pa.eO++([a1]:List BA),mput pa.oo a1 ta.1⟩:cI)) (gb.1,gb.2.1,va,gb.2.2.2) had (pm 4 [0,1,2,3])) fun _ _=>?_
  cases H.out; exact et () 1 [0] 0
 refine wr 11 0<|go 1<|Dv.bW haa Q T Q<|fp haa Q T Q xO<|gl 2 [1]<|Dv.mlk 0 Q T Q (ab 3 Q) Q tU (dR W9) z3 (fun _=>Q)<|go 1<|eh Q T Q Q<|eh Q T Q Q<|go 2<|so<|cf H ?_ ?_ <;> intro H
 ·
  refine WP.skip ?_
  have H:=H.out
  refine ng (cI.shut (p:=p0_) (m:=(⟨ta.2.2,a0.eO,a0.oo⟩:cI)) (ga.1,ga.2.1,ga.2.2.1,ga.2.2.2) haa (pm 4 [1,0,2,3])) fun _ _=>?_
  exact jn (⟨ta.2.2,a0.eO,a0.oo⟩:cI) H
 refine wr 7 0<|go 1<|Dv.bW haa Q T Q<|fp haa Q T Q nj<|gl 2 [1]<|el H fun tc hae H=>oU (B:=[own aE ga.2.2.1.1 a0.eO]) 4 [2,0,1,3] (cL 115) (Pt.Bn _ (bz.c hae) (.cons (sG (ab 0 Q)) (.cons wC .nil)) o5) ?_
 refine go 1<|rg 12 2304<|go 2<|Dv.bW haa Q T Q<|fp haa Q T Q nj<|gl 4 [1]<|el H fun te haf H=>cx 4 [2,0,1,3] (cL 116) (dU.c haf (p0_:=ga.2.2.1)) nofun fun gj _=>?_
 refine Dv.bW haa Q T Q<|fp haa Q T Q nj<|sx 2 Q T Q Q (cells_one bL) Jb Q Q Q nofun ?_
 refine .fin ?_
 have H:=H.out
 refine ng (cI.shut (p:=p0_) (m:=(⟨ta.2.2,te,a0.oo⟩:cI)) (ga.1,ga.2.1,gj,ga.2.2.2) haa (pm 4 [2,1,0,3])) fun _ _=>?_
 exact jn (⟨ta.2.2,te,a0.oo⟩:cI) H
theorem kH.c (h:kH.f a0=some r):Pt prog 49 [agg (kR.enc a0)] (vS r):=by
 refine pf func49 h fun R0 F H=>?_
 refine wr 2 1<|Dv.box Q T Q cA nofun fun ba=>go 1<|WP.seq<|sL [0]<|cf H ?_ ?_ <;> intro H
 ·
  refine WP.skip<|WP.seq<|sL [0]<|ce H ?_ ?_ <;> intro H
  ·
   refine wr 4 0<|gl 2 [0]<|gr H fun ga H=>nQ Q Q Q (iE ga)<|gq 1 ?_
   cases H.out; exact ek 1
  refine WP.skip<|wr 4 0<|gl 2 [0]<|gr H fun gb H=>nQ Q Q Q (iE gb)<|gq 1 ?_
  cases H.out; exact ek 1
 refine so<|sq H id [1] (fun pa=>[(3,vS pa)]) (fun _=>[]) (fun pa H=>?_) (fun H=>?_)
 rotate_left
 ·
  refine sL [0]<|cf H ?_ ?_ <;> intro H
  ·
   refine WP.skip ?_
   have H:=H.out
   exact jn (⟨#[32,48]⟩:BA) H
  refine rg 1 0<|gq 1 ?_
  have H:=H.out
  exact jn (⟨#[32,49]⟩:BA) H
 refine wr 17 0<|gl 3 [0]<|gr H fun gi H=>nQ Q Q Q (iE gi)<|gr H fun gj H=>nQ Q Q Q (iE gj)<|gl 3 [0]<|gr H fun gk H=>nQ Q Q Q (iE gk)<|gr H fun gm H=>nQ Q Q Q (iE gm)<|gl 3 [0]<|gr H fun gn H=>nQ Q Q Q (iE gn)<|go 1<|gr H fun gu H=>nQ Q Q Q (iE gu)<|gq 1 ?_
 cases H.out; exact ek 1
end Go.Proofs.YtfknmdelgepbjaaGreatDoor
