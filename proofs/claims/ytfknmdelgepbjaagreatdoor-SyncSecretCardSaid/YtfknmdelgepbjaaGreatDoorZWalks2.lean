import Derived.Test.YtfknmdelgepbjaaGreatDoorZTab
import Derived.Test.YtfknmdelgepbjaaGreatDoorZWalks1
import Derived.Test.YtfknmdelgepbjaaGreatDoorConQ
import Derived.Test.YtfknmdelgepbjaaGreatDoorConA6
import Derived.Test.YtfknmdelgepbjaaGreatDoorConC4
import Derived.Lib.Join
import Derived.Eval
set_option linter.all false
set_option autoImplicit true
set_option maxRecDepth 10000
set_option maxHeartbeats 20000000
namespace Go.Proofs.YtfknmdelgepbjaaGreatDoor
open Go Go.Sp Tryz
theorem dz.c (h:dz.f k a0 a1=some r):Pt prog 218 [agg (aQ.enc a0),vS a1] (vI r):=by
 refine pf func218 h fun R0 F H=>?_
 refine wr 2 1<|Dv.box Q T Q cA nofun fun ba=>go 1<|wr 4 0<|gl 2 [0]<|el H fun ta haa H=>cl Q (cL 148) Q (ew.c haa)<|go 1<|WP.seq<|so<|ce H ?_ ?_ <;> intro H
 ·
  refine sp ?_
  cases H.out; exact ek 1
 refine WP.skip<|wr 4 4<|go 2<|gr H fun ga H=>?_
 obtain ⟨ti867,ti867a,ti867b,ti867c,ti867d⟩:=Hk
 refine Dv.AJ (Kd:=(bG .i64)) (0:Int) Q T Q Q qZ ti867a ti867b ti867c ti867d Q dc Q ga nofun (fun va=>?_)
 refine go 1<|WP.lf H id (fun pa=>[(5,vI ta),(6,eq va.1)]) (fun pa=>[aI ba 113 (aQ.enc a0),own (bG .i64) va.1 pa.2.2]++F) (fun pa H=>?_) (fun H=>?_)
 ·
  refine wr 5 0<|go 2<|gr H fun gb H=>?_
  have hac:ta.toNat<pa.2.2.length:=bE gb
  refine Dv.kA Q T Q (ab 1 Q) Q qZ U3 c3 gb.1 gb.2<|Dv.o6 (j:=ta.toNat) (f:=0) (p:=vI (pa.2.2.getD ta.toNat default)) Q T Q (ab 1 Q) hac U3 Q Q<|gq 1 ?_
  cases H.out; exact ek 2
 refine so<|WP.block<|ws 2 [1,0] 0 ?_
 refine lq (fun j_ (pc:Int×(List Int))=>dz.l0 k a0 ta j_ pc.1 pc.2) (0,List.replicate (aw (ta+1)).toNat (0:Int)) H [2,5,6] (fun pc=>[(7,vI pc.1)]) (fun pc=>[(1,own (bG .i64) va.1 pc.2)]) ?_
 rintro j_ ⟨xc,xd⟩ H
 rcases j_ with _ | ja
 ·
  exact (aV.no H).elim
 try dsimp only at H
 rw [dz.l0] at H
 refine WP.seq<|so<|cf H ?_ ?_ <;> intro H
 ·
  refine WP.exit ?_
  have H:=H.out
  exact jn (xc,decide (xc≤ta),xd) H
 refine WP.skip<|WP.lf H id (fun pe=>[(2,eP ba),(5,vI ta),(6,eq va.1),(7,vI xc)]) (fun pe=>[aI ba 113 (aQ.enc a0),own (bG .i64) va.1 pe.2.2]++F) (fun pe H=>?_) (fun H=>?_)
 ·
  exact rg 3 0<|go 3<|bk ja (aw (xc+1),pe.2.2) H
 refine WP.block<|so<|WP.block<|ws 2 [0,1] 0 ?_
 refine lq (fun j_ (pg:Int×(List Int))=>dz.l1 k a0 xc j_ pg.1 pg.2) (0,xd) H [2,5,6,7] (fun pg=>[(8,vI pg.1)]) (fun pg=>[(1,own (bG .i64) va.1 pg.2)]) ?_
 rintro j_ ⟨xe,xf⟩ H
 rcases j_ with _ | jc
 ·
  exact (aV.no H).elim
 try dsimp only at H
 rw [dz.l1] at H
 refine WP.seq<|wr 9 0<|gl 4 [0]<|gr H fun gc H=>Dv.iY Q T Q Q rI mJ oU gc.1 gc.2<|fr Q T Q CY Q<|mj Q T Q IP Q<|Dv.fg Q T Q dW<|go 1<|cf H ?_ ?_ <;> intro H
 ·
  refine WP.exit ?_
  have H:=H.out
  exact jn (xe,decide (xe<(((Event.K.at a0.fL xc).ag).length:Int)),xf) H
 refine WP.skip<|WP.seq<|WP.block<|dg mX 24 8388608<|go 4<|gr H fun gi H=>?_
 have had:xc.toNat<xf.length:=bE gi
 refine Dv.kA Q T Q (ab 1 Q) Q qZ U3 c3 gi.1 gi.2<|Dv.o6 (j:=xc.toNat) (f:=0) (p:=vI (xf.getD xc.toNat default)) Q T Q (ab 1 Q) had U3 Q Q<|gl 5 [0,0]<|gr H fun gj H=>Dv.iY Q T Q Q rI mJ oU gj.1 gj.2<|fr Q T Q CY Q<|mj Q T Q IP Q<|go 1<|gr H fun gk H=>Dv.iY Q T Q Q dW U9 c9 gk.1 gk.2<|mj Q T Q qt Q<|el H fun tc hae H=>cl Q (cL 148) Q (ew.c hae)<|gr H fun gm H=>?_
 have haf:tc.toNat<xf.length:=bE gm
 refine Dv.kA Q T Q (ab 1 Q) Q qZ U3 c3 gm.1 gm.2<|Dv.o6 (j:=tc.toNat) (f:=0) (p:=vI (xf.getD tc.toNat default)) Q T Q (ab 1 Q) haf U3 Q Q<|go 1<|Dv.IA Q T Q Q<|gr H fun gn H=>?_
 have hag:xc.toNat<xf.length:=bE gn
 exact Dv.kA Q T Q (ab 1 Q) Q qZ U3 c3 gn.1 gn.2<|Dv.HX (j:=xc.toNat) (f:=0) (jj:=1) (max (xf.getD xc.toNat default) (aw ((xf.getD tc.toNat default)+1))) Q T Q Q (cells_one (ah Q)) U3 c3 Q Q hag (Nat.le_of_ble_eq_true Q) Q (fun _=>fF kr)<|.fin<|rg 3 0<|go 3<|bk jc (aw (xe+1),xf.set xc.toNat (max (xf.getD xc.toNat default) (aw ((xf.getD tc.toNat default)+1)))) H
theorem gI.c (h:gI.f k a0 a1=some r):Pt prog 152 [agg (aQ.enc a0),vS a1] (agg (Pos.enc r)):=by
 refine pf func152 h fun R0 F H=>?_
 refine wr 2 3<|Dv.box Q T Q cA nofun fun ba=>al Q T tA nofun fun bc=>.fin<|wr 6 32<|gl 2 [1]<|el H fun ta haa H=>cl Q (cL 218) Q (dz.c haa)<|go 1<|Dv.lp (qs:=[vI ta,vS a1]) (css:=[[vI ta],[vS a1]]) Q T tI FO IL Q ⟨(cells_one (ah Q)),⟨(cells_one (ah Q)),T⟩⟩ Q Q<|sy 0 ?_
 refine .fin ?_
 cases H.out; exact r2 i2 Q (.cons (au Q tI Q yh (ab 0 Q) Q) .nil)
theorem kg.c (h:kg.f k a0 a1 a2=some r):Pt prog 95 [agg (bF.enc a0),vS a1,vS a2] (kN [agg (Pos.enc r.1),vB r.2]):=by
 refine pf func95 h fun R0 F H=>?_
 refine wr 3 3<|Dv.box Q T Q cA nofun fun ba=>al Q T tA nofun fun bc=>go 1<|wr 5 24<|gl 2 [1]<|el H fun ta haa H=>cl Q (cL 77) Q (iJ.c haa)<|al Q T ot nofun fun bd=>sy 0 ?_
 refine .fin<|WP.seq<|wr 4 0<|gl 2 [0]<|el H fun tc hac H=>cl Q (cL 148) Q (ew.c hac)<|go 1<|cf H ?_ ?_ <;> intro H
 ·
  refine WP.skip<|wr 5 8<|gl 2 [0]<|el H fun te had H=>cl Q (cL 152) Q (gI.c had)<|sy 1 ?_
  refine gq 1 ?_
  cases H.out; exact r3 i2 Q (.cons (au Q tI Q yh (ab 1 Q) Q) (.cons (aE Q) .nil))
 refine wr 3 2<|Dv.lp (qs:=[vI 0,vS eE]) (css:=[]) Q T tI FO IL Q T Q Q<|sy 1 ?_
 refine gq 1 ?_
 cases H.out; exact r3 i2 Q (.cons (au Q tI Q yh (ab 1 Q) Q) (.cons (aE Q) .nil))
theorem qJ.c (h:qJ.f k a0 a1 a2=some r):Pt prog 38 [agg (ql.enc a0),agg (bF.enc a1),agg (ak.enc a2)] (kN [agg (ql.enc r.1),vB r.2.1,vI r.2.2]):=by
 refine pf func38 h fun R0 F H=>?_
 refine wr 6 15<|Dv.box Q T Q cA nofun fun ba=>Dv.box Q T Q cA nofun fun bc=>Dv.box Q T Q cA nofun fun bd=>al Q T I2 nofun fun be=>go 2<|wr 3 0<|gl 1 [1]<|el H fun ta haa H=>cl Q (cL 92) Q (fQ.c haa)<|go 1<|WP.seq<|wr 7 0<|kK 4 [1] ?_
 cases cc:(a2.aG != 1)
 rotate_left
 ·
  have H:=H.ct cc
  refine go 3<|WP.cond Q (fun _=>?_) nofun
  refine wr 4 2<|gl 1 [3]<|sy 0 ?_
  refine gq 2 ?_
  cases H.out; exact r4 i2 Q (.cons (au Q z7 Q E5 (ab 0 Q) Q) (.cons (aE Q) (.cons (aE Q) .nil)))
 have H:=H.cf cc
 refine go 3<|ce H ?_ ?_ <;> intro H
 ·
  refine wr 4 2<|gl 1 [3]<|sy 0 ?_
  refine gq 2 ?_
  cases H.out; exact r4 i2 Q (.cons (au Q z7 Q E5 (ab 0 Q) Q) (.cons (aE Q) (.cons (aE Q) .nil)))
 refine WP.skip<|wr 9 0<|gl 7 [2,1,1,1]<|el H fun tc hac H=>cl Q (cL 93) Q (ow.c hac)<|go 1<|WP.seq<|so<|ce H ?_ ?_ <;> intro H
 ·
  refine wr 13 3840<|gl 3 [3,1]<|el H fun te had H=>cl Q (cL 94) Q (ke.c had)<|go 1<|ei Q T Q Q<|ei Q T Q Q<|ei Q T Q Q<|al Q T I9 nofun fun bg=>al Q T s9 nofun fun bh=>sy 1 ?_
  refine sy 0 ?_
  refine go 1<|wr 7 16<|gl 3 [5,1]<|Dv.lp (qs:=[sl MK.K a0.fL,vI te.1.o8,sl ak.K te.1.fL,vI te.1.pK]) (css:=[[sl MK.K a0.fL],nH.enc te.1]) Q T z7 FP HI Q ⟨(cells_one dM),⟨(aZ (nH.K.one _)),T⟩⟩ Q Q<|sy 2 ?_
  refine gq 2 ?_
  cases H.out; exact rt i2 Q () 6 [0,1,2,3,4,5] 6 (.cons (au Q z7 Q E5 (ab 2 Q) Q) (.cons (aE Q) (.cons (aE Q) .nil)))
 refine WP.skip<|WP.seq<|so<|ce H ?_ ?_ <;> intro H
 ·
  refine wr 5 4<|gl 2 [3]<|sy 0 ?_
  refine gq 2 ?_
  cases H.out; exact r4 i2 Q (.cons (au Q z7 Q E5 (ab 0 Q) Q) (.cons (aE Q) (.cons (aE Q) .nil)))
 refine WP.skip<|wr 12 1536<|gl 5 [2,1,1]<|el H fun tg hae H=>cl Q (cL 95) Q (kg.c hae)<|go 1<|ei Q T Q Q<|ei Q T Q Q<|al Q T tA nofun fun bi=>sy 0 ?_
 refine go 1<|wd mX 11 0<|gl 3 [4,2]<|el H fun tj haf H=>cl Q (cL 40) Q (pA.c haf)<|gl 1 [0]<|el H fun tm hag H=>cl Q (cL 25) Q (ji.c hag)<|go 1<|ei Q T Q Q<|ei Q T Q Q<|go 2<|wr 8 32<|gl 3 [4]<|Dv.lp (qs:=[sl MK.K tm.1,vI a0.fP.o8,sl ak.K a0.fP.fL,vI a0.fP.pK]) (css:=[[sl MK.K tm.1],nH.enc a0.fP]) Q T z7 FP HI Q ⟨(cells_one dM),⟨(aZ (nH.K.one _)),T⟩⟩ Q Q<|go 1<|sy 1 ?_
 refine gq 2 ?_
 cases H.out; exact r5 i2 Q (.cons (au Q z7 Q E5 (ab 1 Q) Q) (.cons (aE Q) (.cons (aE Q) .nil)))
theorem cK.c (h:cK.f a0 a1 a2=some r):Pt prog 219 [vI a0,vI a1,vI a2] (vB r):=by
 refine pf func219 h fun R0 F H=>?_
 refine so<|wr 9 0<|gp 4 ?_
 cases cc:decide (a1≤a0)
 ·
  have H:=H.cf cc
  refine gq 5 ?_
  cases H.out; exact ek 0
 have H:=H.ct cc
 refine gq 5 ?_
 cases H.out; exact ek 0
theorem iI.c (h:iI.f a0=some r):Pt prog 220 [agg (ak.enc a0)] (vB r):=by
 refine pf func220 h fun R0 F H=>?_
 refine wr 2 1<|Dv.box Q T Q cA nofun fun ba=>go 1<|sp ?_
 cases H.out; exact ek 1
theorem kR.c (h:kR.f k a0=some r):Pt prog 222 [vS a0] (vB r):=by
 refine pf func222 h fun R0 F H=>?_
 refine so<|wr 11 0<|gp 3 ?_
 cases cc:decide (a0=eE)
 rotate_left
 ·
  have H:=H.ct cc
  refine gq 8 ?_
  cases H.out; exact ek 0
 have H:=H.cf cc
 refine gp 4 ?_
 cases cg:decide (a0=(⟨#[109,97,105,110]⟩:BA))
 rotate_left
 ·
  have H:=H.ct cg
  refine gq 4 ?_
  cases H.out; exact ek 0
 have H:=H.cf cg
 refine go 1<|el H fun ta haa H=>Dv.call Q (gg Q) (cL 211) Q (ea.c haa)<|gq 2 ?_
 cases H.out; exact ek 0
theorem gA.c (h:gA.f k a0=some r):Pt prog 221 [agg (ak.enc a0)] (vB r):=by
 refine pf func221 h fun R0 F H=>?_
 refine wr 2 1<|Dv.box Q T Q cA nofun fun ba=>go 1<|wr 14 0<|gl 2 [0]<|el H fun ta haa H=>cl Q (cL 212) Q (kb.c haa)<|gp 1 ?_
 cases cc:ta
 ·
  have H:=H.cf cc
  refine gq 10 ?_
  cases H.out; exact ek 1
 have H:=H.ct cc
 refine gl 2 [0]<|el H fun tc hac H=>Dv.call Q (gg Q) (cL 211) Q (ea.c hac)<|gp 2 ?_
 cases cg:tc
 ·
  have H:=H.cf cg
  refine gq 5 ?_
  cases H.out; exact ek 1
 have H:=H.ct cg
 refine gl 2 [0]<|el H fun te had H=>Dv.call Q (gg Q) (cL 222) Q (kR.c had)<|gq 2 ?_
 cases H.out; exact ek 1
theorem fq.c {c0:Int→Int→Int→Option Bool} (h:fq.f k a0 c0=some r):Pt prog 223 [agg (ak.enc a0),rp [mN c0]] (vB r):=by
 refine pf func223 h fun R0 F H=>?_
 refine wr 2 1<|Dv.box Q T Q cA nofun fun ba=>go 1<|wr 15 0<|gl 2 [0]<|el H fun ta haa H=>cl Q (cL 212) Q (kb.c haa)<|gp 1 ?_
 cases cc:ta
 ·
  have H:=H.cf cc
  refine gq 11 ?_
  cases H.out; exact ek 1
 have H:=H.ct cc
 refine kK 4 [0] ?_
 cases cg:!a0.jS
 rotate_left
 ·
  have H:=H.ct cg
  refine gq 7 ?_
  cases H.out; exact ek 1
 have H:=H.cf cg
 refine mj Q (gg Q) Q Jy Q<|gl 2 [0]<|el H fun tc hac H=>Dv.rO (ret:=vB tc) Q (gg Q) Q Q ⟨_,_,_,_,hac,Q,Q⟩<|gq 3 ?_
 cases H.out; exact ek 1
theorem fE.c {c0:Int→Int→Int→Option Bool} (h:fE.f a0 c0=some r):Pt prog 224 [agg (ak.enc a0),rp [mN c0]] (vB r):=by
 refine pf func224 h fun R0 F H=>?_
 refine wr 2 1<|Dv.box Q T Q cA nofun fun ba=>go 1<|wr 5 0<|mj Q T Q Jy Q<|gl 2 [0]<|el H fun ta haa H=>Dv.rO (ret:=vB ta) Q T Q Q ⟨_,_,_,_,haa,Q,Q⟩<|gq 1 ?_
 cases H.out; exact ek 1
theorem nE.c (h:nE.f k=some r):Pt prog 153 [] (sl ig r):=by
 refine pf func153 h fun R0 F H=>?_
 refine so<|wr 2 3<|al Q T zc336 nofun fun ba=>sy 0 ?_
 refine .fin<|wr 4 0<|Dv.gh (rW (E':=[(0,eN),(1,rp [eq (.func (.func 219) #[] #[])])]) (l':=F) 0 Q (ar Q az (ar Q j4 jl)) (gC .nil fun _=>bU)) (fun _ _=>?_)
 refine Dv.mkf (Q:=lS (fun a0_=>fq.f k a0_ cK.f)) (cL 223) (by rintro _ _ ⟨a0_,r_,h_,rfl,rfl⟩; exact Pt.jK (fq.c h_) (.cons cM (.cons (Ji (.cons (v7 (cL 219) (by rintro _ _ ⟨a0_,a1_,a2_,r_,h_,rfl,rfl⟩; exact cK.c h_)) .nil)) .nil))) Q T Q Q<|Dv.mkf (Q:=lS (fun a0_=>fE.f a0_ cK.f)) (cL 224) (by rintro _ _ ⟨a0_,r_,h_,rfl,rfl⟩; exact Pt.jK (fE.c h_) (.cons cM (.cons (Ji (.cons (v7 (cL 219) (by rintro _ _ ⟨a0_,a1_,a2_,r_,h_,rfl,rfl⟩; exact cK.c h_)) .nil)) .nil))) Q T Q Q<|Dv.lit ig ([iI.f,gA.f k,fun a0_=>fq.f k a0_ cK.f,fun a0_=>fE.f a0_ cK.f]:List (ak→Option Bool)) (css:=[[jE iI.f],[jE (gA.f k)],[jE (fun a0_=>fq.f k a0_ cK.f)],[jE (fun a0_=>fE.f a0_ cK.f)]]) Q T U273 KG c201 z201 Q dc dc Q ⟨(zV (v7 (cL 220) (by rintro _ _ ⟨a0_,r_,h_,rfl,rfl⟩; exact iI.c h_)) (ah Q)),⟨(zV (v7 (cL 221) (by rintro _ _ ⟨a0_,r_,h_,rfl,rfl⟩; exact gA.c h_)) (ah Q)),⟨(cells_one nN),⟨(cells_one nN),T⟩⟩⟩⟩ Q Q Q<|gq 1 ?_
 cases H.out; exact ek 0
theorem im.c (h:im.f a0=some r):Pt prog 154 [vI a0] (vB r):=by
 refine pf func154 h fun R0 F H=>?_
 refine so<|wr 7 0<|gp 3 ?_
 cases cc:decide (0≤a0)
 ·
  have H:=H.cf cc
  refine gq 4 ?_
  cases H.out; exact ek 0
 have H:=H.ct cc
 refine gq 4 ?_
 cases H.out; exact ek 0
theorem lY.c (h:lY.f a0=some r):Pt prog 155 [agg (ak.enc a0)] (agg (ak.enc r)):=by
 refine pf func155 h fun R0 F H=>?_
 refine wr 2 3<|Dv.box Q T Q cA nofun fun ba=>al Q T s9 nofun fun bc=>.fin<|wr 11 1536<|gl 8 [1,1,1,1]<|Dv.lp (qs:=[vI a0.aG,vS eE,vS a0.ai,vS eE,vS eE,vB false,vB false,vI 0,vI 0,vI a0.aS,vI a0.aY]) (css:=[[vI a0.aG],[vS a0.ai],[vI a0.aS],[vI a0.aY]]) Q T iq Ba uZ Q ⟨(cells_one (ah Q)),⟨(cells_one (ah Q)),⟨(cells_one (ah Q)),⟨(cells_one (ah Q)),T⟩⟩⟩⟩ Q Q<|al Q T s9 nofun fun bd=>sy 0 ?_
 refine .fin<|WP.seq<|r9 [2]<|WP.block<|so<|ce H ?_ ?_ <;> intro H
 ·
  refine dg mX 16 43520<|gl 9 [2,2,2,2]<|sx 0 Q T Q Q cE sz9 Q Q Q pD ?_
  refine go 1<|sx 0 Q T Q Q cE sz9 Q Q Q pD ?_
  refine go 1<|sx 0 Q T Q Q cE sz9 Q Q Q pD ?_
  refine go 1<|sv 0 ?_
  refine .fin<|wr 2 2<|gl 1 [0]<|sy 1 ?_
  refine .fin ?_
  cases H.out; exact r3 i2 Q (.cons (au Q iq Q iT (ab 1 Q) Q) .nil)
 refine so<|cf H ?_ ?_ <;> intro H
 ·
  refine so<|cf H ?_ ?_ <;> intro H
  ·
   refine WP.skip<|wr 2 2<|gl 1 [0]<|sy 1 ?_
   refine .fin ?_
   cases H.out; exact r3 i2 Q (.cons (au Q iq Q iT (ab 1 Q) Q) .nil)
  refine rg 4 8<|gl 3 [2]<|sy 0 ?_
  refine .fin<|wr 2 2<|gl 1 [0]<|sy 1 ?_
  refine .fin ?_
  cases H.out; exact r3 i2 Q (.cons (au Q iq Q iT (ab 1 Q) Q) .nil)
 refine wd mX 8 160<|gl 5 [2,2]<|sx 0 Q T Q Q cE sz9 Q Q Q pD ?_
 refine go 1<|sv 0 ?_
 refine .fin<|r9 [2]<|cf H ?_ ?_ <;> intro H
 ·
  refine WP.skip<|wr 2 2<|gl 1 [0]<|sy 1 ?_
  refine .fin ?_
  cases H.out; exact r3 i2 Q (.cons (au Q iq Q iT (ab 1 Q) Q) .nil)
 refine rg 4 8<|gl 3 [2]<|sy 0 ?_
 refine .fin<|wr 2 2<|gl 1 [0]<|sy 1 ?_
 refine .fin ?_
 cases H.out; exact r3 i2 Q (.cons (au Q iq Q iT (ab 1 Q) Q) .nil)
theorem eJ.c (h:eJ.f k a0=some r):Pt prog 96 [agg (ak.enc a0)] (vB r):=by
 refine pf func96 h fun R0 F H=>?_
 refine wr 2 1<|Dv.box Q T Q cA nofun fun ba=>go 1<|WP.seq<|wd mX 18 0<|kK 4 [0] ?_
 cases cc:decide (a0.aG<0)
 rotate_left
 ·
  have H:=H.ct cc
  refine go 14<|WP.cond Q (fun _=>?_) nofun
  refine sp ?_
  cases H.out; exact ek 1
 have H:=H.cf cc
 refine kK 5 [0] ?_
 cases cg:decide (3<a0.aG)
 rotate_left
 ·
  have H:=H.ct cg
  refine go 9<|WP.cond Q (fun _=>?_) nofun
  refine sp ?_
  cases H.out; exact ek 1
 have H:=H.cf cg
 refine el H fun ta haa H=>Dv.call Q (gg Q) (cL 153) Q (nE.c haa)<|gl 2 [0]<|gr H fun ga H=>Dv.iY Q (gg Q) Q Q U273 KG c201 ga.1 ga.2<|mj Q (gg Q) Q sc201 Q<|gl 1 [0]<|el H fun tc hac H=>Dv.rO (ret:=vB tc) Q (gg Q) Q Q ⟨_,_,hac,Q,Q⟩<|go 2<|ce H ?_ ?_ <;> intro H
 ·
  refine sp ?_
  cases H.out; exact ek 1
 refine WP.skip<|so<|wd mX 22 0<|gl 2 [0,0]<|el H fun te had H=>cl Q (cL 155) Q (lY.c had)<|Dv.eqs [.int .i64 a0.aG,.string a0.aa,.string a0.ai,.string a0.bC,.string a0.ae,.bool a0.ao,.bool a0.jS,.int .i64 a0.b8,.int .i64 a0.aM,.int .i64 a0.aS,.int .i64 a0.aY] [.int .i64 te.aG,.string te.aa,.string te.ai,.string te.bC,.string te.ae,.bool te.ao,.bool te.jS,.int .i64 te.b8,.int .i64 te.aM,.int .i64 te.aS,.int .i64 te.aY] Q T Q Q Q Q Io (fun _=>j5 2 dc (fun _=>Co a0 te))<|gp 1 ?_
 cases ci:decide (a0=te)
 ·
  have H:=H.cf ci
  refine gq 17 ?_
  cases H.out; exact ek 1
 have H:=H.ct ci
 refine gl 2 [0]<|el H fun tg hae H=>Dv.call Q (gg Q) (cL 156) Q (lX.c hae)<|gp 2 ?_
 cases cj:tg
 ·
  have H:=H.cf cj
  refine gq 12 ?_
  cases H.out; exact ek 1
 have H:=H.ct cj
 refine gl 3 [0]<|el H fun tj haf H=>Dv.Jz Q (gg Q) Q (cL 154) Q (im.c haf)<|gp 2 ?_
 cases ck:tj
 ·
  have H:=H.cf ck
  refine gq 6 ?_
  cases H.out; exact ek 1
 have H:=H.ct ck
 refine gl 3 [0]<|el H fun tm hag H=>Dv.Jz Q (gg Q) Q (cL 154) Q (im.c hag)<|gq 2 ?_
 cases H.out; exact ek 1
theorem kH.c {v0_0:OV} {b0_:Nat} (h:kH.f a0 a1=some r):Tr prog 157 [eP b0_,vS a1] [aI b0_ 265 [vS a0.cR,eq v0_0.1],km Value.string aW.O v0_0.1 a0.aq] (γ:=Unit) (fun _=>True) (fun g=>kN [agg (Event.enc r.1),vB r.2]) (fun g=>[aI b0_ 265 [vS a0.cR,eq v0_0.1],km Value.string aW.O v0_0.1 a0.aq]):=by
 refine tf func157 h fun R0 F H=>?_
 refine wr 2 1<|al Q T zw nofun fun ba=>go 1<|WP.seq<|wr 4 0<|go 2<|el H fun ta haa H=>px 3 [1,2,0] (cL 144) (ec.c haa (b0_:=b0_) (v0_0:=v0_0)) ?_
 refine go 1<|ce H ?_ ?_ <;> intro H
 ·
  refine wr 3 2<|Dv.lp (qs:=[vS eE,vS eE,eN,vS eE,vS eE,vI 0]) (css:=[]) Q T mJ IX E6 Q T Q Q<|sy 0 ?_
  refine gq 1 ?_
  cases H.out; exact rt i2 Q () 3 [0,1,2] 1 (.cons (pM (au Q mJ Q oU (ab 0 Q) Q) (oJ (.cons cM (.cons cM (.cons dD (.cons cM (.cons cM (.cons cM .nil)))))))) (.cons (aE Q) .nil))
 refine WP.skip<|wr 12 1024<|gl 5 [1]<|vg (mh 2 Q) fun za hac=>?_
 refine Dv.F6 iS Q T Q (ab 0 Q) Q wF (dN U9) BN (fun _=>Q)<|gr H fun ga H=>vg (qv hac Q ga (pm 4 [1,0,2,3])) fun _ _=>?_
 refine Dv.pZ aW.nn Q T Q (ab 0 Q)<|vg (aW.iK 0 Q) fun gb had=>?_
 refine fp had Q T Q tU<|gl 1 [0]<|el H fun tc hae H=>cl Q (cL 146) Q (iA.c hae)<|sy 3 ?_
 refine go 1<|wg (aW.shut (p:=((mget (cZ a0.aq za) a1).getD iS)) (m:=(mget a0.aq a1).getD default) gb had (pm 5 [0,1,2,3,4])) fun _ _=>?_
 refine wg (od hac Q ga (pm 5 [0,1,2,3,4])) fun _ _=>?_
 refine wg (iu hac Q (pm 4 [1,0,2,3])) fun _ _=>?_
 cases H.out; exact rt i2 Q () 3 [1,2,0] 1 (.cons (au Q mJ Q oU (ab 1 Q) Q) (.cons (aE Q) .nil))
theorem iM.c {v0_0:OV} {b0_:Nat} (h:iM.f a0 a1 a2 a3=some r):Tr prog 97 [eP b0_,vS a1,vS a2,vS a3] [aI b0_ 186 [eq v0_0.1],km Value.string bf.O v0_0.1 a0.br] (γ:=Unit) (fun _=>True) (fun g=>vI r) (fun g=>[aI b0_ 186 [eq v0_0.1],km Value.string bf.O v0_0.1 a0.br]):=by
 refine tf func97 h fun R0 F H=>?_
 refine so<|wr 5 4<|go 2<|el H fun ta haa H=>cx 2 [0,1] (cL 88) (aO.c haa (b0_:=b0_) (v0_0:=v0_0)) nofun fun va _=>?_
 refine Dv.mkc (fst:=#[va.1]) Q T Q<|go 1<|wr 9 192<|go 2<|vg (bf.iK 2 Q) fun ga hac=>?_
 refine el H fun tc had H=>Dv.Ei (fst:=#[va.1]) (B:=[aI ga.1 265 [vS ta.cR,eq ga.2.1],km Value.string aW.O ga.2.1 ta.aq]) (F:=[aI b0_ 186 [eq v0_0.1],IZ Value.string bf.O v0_0.1 a0.br a1 va]++F) Q T Q (cL 157) Q (Tr.jK (kH.c had (b0_:=ga.1) (v0_0:=ga.2)) (.cons (iD hac) (.cons cM .nil))) (mg (L:=[aI ga.1 265 [vS ta.cR,eq ga.2.1],km Value.string aW.O ga.2.1 ta.aq,aI b0_ 186 [eq v0_0.1],IZ Value.string bf.O v0_0.1 a0.br a1 va]) (F:=F) [0,1,2,3] Q Q Q)<|go 1<|ei Q T Q Q<|ei Q T Q Q<|al Q T zw nofun fun ba=>sy 0 ?_
 refine go 1<|WP.seq<|WP.block<|so<|ce H ?_ ?_ <;> intro H
 ·
  refine so<|wg (bf.shut (p:=va) (m:=ta) (ga.1,ga.2) hac (pm 5 [1,2,0,3,4])) fun _ _=>?_
  refine wg (fu (aO.r haa) (pm 4 [3,0,1,2])) fun _ _=>?_
  cases H.out; exact et () 3 [1,2,0] 1
 refine WP.seq<|so<|ce H ?_ ?_ <;> intro H
 ·
  refine WP.skip<|ce H ?_ ?_ <;> intro H
  ·
   refine so<|wg (bf.shut (p:=va) (m:=ta) (ga.1,ga.2) hac (pm 5 [1,2,0,3,4])) fun _ _=>?_
   refine wg (fu (aO.r haa) (pm 4 [3,0,1,2])) fun _ _=>?_
   cases H.out; exact et () 3 [1,2,0] 1
  refine WP.skip<|so<|wg (bf.shut (p:=va) (m:=ta) (ga.1,ga.2) hac (pm 5 [1,2,0,3,4])) fun _ _=>?_
  refine wg (fu (aO.r haa) (pm 4 [3,0,1,2])) fun _ _=>?_
  cases H.out; exact et () 3 [1,2,0] 1
 refine wr 8 0<|gp 3 ?_
 cases cc:decide (a3=(⟨#[109,97,105,110]⟩:BA))
 ·
  have H:=H.cf cc
  refine go 5<|WP.cond Q nofun (fun _=>?_)
  refine so<|ce H ?_ ?_ <;> intro H
  ·
   refine WP.skip<|ce H ?_ ?_ <;> intro H
   ·
    refine so<|wg (bf.shut (p:=va) (m:=ta) (ga.1,ga.2) hac (pm 5 [1,2,0,3,4])) fun _ _=>?_
    refine wg (fu (aO.r haa) (pm 4 [3,0,1,2])) fun _ _=>?_
    cases H.out; exact et () 3 [1,2,0] 1
   refine WP.skip<|so<|wg (bf.shut (p:=va) (m:=ta) (ga.1,ga.2) hac (pm 5 [1,2,0,3,4])) fun _ _=>?_
   refine wg (fu (aO.r haa) (pm 4 [3,0,1,2])) fun _ _=>?_
   cases H.out; exact et () 3 [1,2,0] 1
  refine rg 5 0<|gl 5 [0]<|ce H ?_ ?_ <;> intro H
  ·
   refine so<|wg (bf.shut (p:=va) (m:=ta) (ga.1,ga.2) hac (pm 5 [1,2,0,3,4])) fun _ _=>?_
   refine wg (fu (aO.r haa) (pm 4 [3,0,1,2])) fun _ _=>?_
   cases H.out; exact et () 3 [1,2,0] 1
  refine WP.skip<|so<|wg (bf.shut (p:=va) (m:=ta) (ga.1,ga.2) hac (pm 5 [1,2,0,3,4])) fun _ _=>?_
  refine wg (fu (aO.r haa) (pm 4 [3,0,1,2])) fun _ _=>?_
  cases H.out; exact et () 3 [1,2,0] 1
 have H:=H.ct cc
 refine gl 5 [0]<|ce H ?_ ?_ <;> intro H
 ·
  refine WP.skip<|ce H ?_ ?_ <;> intro H
  ·
   refine so<|wg (bf.shut (p:=va) (m:=ta) (ga.1,ga.2) hac (pm 5 [1,2,0,3,4])) fun _ _=>?_
   refine wg (fu (aO.r haa) (pm 4 [3,0,1,2])) fun _ _=>?_
   cases H.out; exact et () 3 [1,2,0] 1
  refine WP.skip<|so<|wg (bf.shut (p:=va) (m:=ta) (ga.1,ga.2) hac (pm 5 [1,2,0,3,4])) fun _ _=>?_
  refine wg (fu (aO.r haa) (pm 4 [3,0,1,2])) fun _ _=>?_
  cases H.out; exact et () 3 [1,2,0] 1
 refine so<|ce H ?_ ?_ <;> intro H
 ·
  refine WP.skip<|ce H ?_ ?_ <;> intro H
  ·
   refine so<|wg (bf.shut (p:=va) (m:=ta) (ga.1,ga.2) hac (pm 5 [1,2,0,3,4])) fun _ _=>?_
   refine wg (fu (aO.r haa) (pm 4 [3,0,1,2])) fun _ _=>?_
   cases H.out; exact et () 3 [1,2,0] 1
  refine WP.skip<|so<|wg (bf.shut (p:=va) (m:=ta) (ga.1,ga.2) hac (pm 5 [1,2,0,3,4])) fun _ _=>?_
  refine wg (fu (aO.r haa) (pm 4 [3,0,1,2])) fun _ _=>?_
  cases H.out; exact et () 3 [1,2,0] 1
 refine rg 5 0<|gl 5 [0]<|ce H ?_ ?_ <;> intro H
 ·
  refine so<|wg (bf.shut (p:=va) (m:=ta) (ga.1,ga.2) hac (pm 5 [1,2,0,3,4])) fun _ _=>?_
  refine wg (fu (aO.r haa) (pm 4 [3,0,1,2])) fun _ _=>?_
  cases H.out; exact et () 3 [1,2,0] 1
 refine WP.skip<|so<|wg (bf.shut (p:=va) (m:=ta) (ga.1,ga.2) hac (pm 5 [1,2,0,3,4])) fun _ _=>?_
 refine wg (fu (aO.r haa) (pm 4 [3,0,1,2])) fun _ _=>?_
 cases H.out; exact et () 3 [1,2,0] 1
theorem b9.c (h:b9.f k a0 a1=some r):Pt prog 226 [sl ak.K a0,agg (ak.enc a1)] (vI r):=by
 refine pf func226 h fun R0 F H=>?_
 refine wr 2 1<|Dv.box Q T Q cA nofun fun ba=>go 1<|sr H id [] (fun _=>[]) (fun _=>[]) (fun pa H=>?_) (fun H=>?_)
 ·
  refine sp ?_
  cases H.out; exact ek 1
 refine wr 3 0<|go 1<|Dv.fg Q T Q fI<|go 1<|WP.block<|ws 1 [0] 0 ?_
 refine lq (fun j_ (pc:Int)=>b9.l0 k a0 a1 j_ pc) 0 H [0,3,7] (fun pc=>[(8,vI pc)]) (fun _=>[]) ?_
 rintro j_ xc H
 rcases j_ with _ | ja
 ·
  exact (aV.no H).elim
 try dsimp only at H
 rw [b9.l0] at H
 refine so<|WP.seq<|cf H ?_ ?_ <;> intro H
 ·
  refine WP.exit ?_
  have H:=H.out
  exact jn (xc,decide (xc<(a0.length:Int))) H
 refine WP.skip<|WP.seq<|WP.block<|so<|wd mX 6 0<|gl 3 [0]<|gr H fun ga H=>Dv.iY Q T Q Q fI iq iT ga.1 ga.2<|kM Q T Q wU Q<|Dv.eqs [.int .i64 a1.aG,.string a1.aa,.string a1.ai,.string a1.bC,.string a1.ae,.bool a1.ao,.bool a1.jS,.int .i64 a1.b8,.int .i64 a1.aM,.int .i64 a1.aS,.int .i64 a1.aY] [.int .i64 ((ak.K.at a0 xc).aG),.string ((ak.K.at a0 xc).aa),.string ((ak.K.at a0 xc).ai),.string ((ak.K.at a0 xc).bC),.string ((ak.K.at a0 xc).ae),.bool ((ak.K.at a0 xc).ao),.bool ((ak.K.at a0 xc).jS),.int .i64 ((ak.K.at a0 xc).b8),.int .i64 ((ak.K.at a0 xc).aM),.int .i64 ((ak.K.at a0 xc).aS),.int .i64 ((ak.K.at a0 xc).aY)] Q T Q Q Q Q Io (fun _=>j5 2 dc (fun _=>Co a1 (ak.K.at a0 xc)))<|.fin<|cf H ?_ ?_ <;> intro H
 ·
  exact WP.skip<|rg 2 0<|go 2<|bk ja (aw (xc+1)) H
 refine sp ?_
 have H:=H.fH
 cases H.out; exact ek 1
theorem fc.c (h:fc.f k a0 a1=some r):Pt prog 158 [sl ak.K a0,agg (ak.enc a1)] (vB r):=by
 refine pf func158 h fun R0 F H=>?_
 refine wr 2 1<|Dv.box Q T Q cA nofun fun ba=>go 1<|wr 5 0<|gl 2 [0]<|el H fun ta haa H=>cl Q (cL 226) Q (b9.c haa)<|gq 2 ?_
 cases H.out; exact ek 1
theorem eW.c {a1 a2:Int} {p0_:OV} (h:eW.f a0 a1 a2=some r):Tr prog 159 [eq p0_.1,vI a1,vI a2] [own ak.K p0_.1 a0] (γ:=OV) (fun _=>True) (fun g=>eq g.1) (fun g=>[own ak.K g.1 r]):=by
  unfold eW.f at h
  obtain ⟨⟨h1,h2,h3⟩,h5⟩:=(aV.of h).an
  obtain rfl:=aV.out h5
  clear h h5
  obtain ⟨i,rfl⟩:=Int.eq_ofNat_of_zero_le h1
  obtain ⟨j,rfl⟩:=Int.eq_ofNat_of_zero_le (show (0:Int)≤a2 by omega)
  have hij:i≤j:=om
  have hj:j≤a0.length:=om
  obtain ⟨v,hv⟩:=p0_
  rw [Int.toNat_natCast,Int.toNat_natCast]
  refine Tr.body func159 (c:=_) Q ntmps159 (Nat.le_of_ble_eq_true Q) fun R0 F=>?_
  refine so<|wr 6 0<|go 4<|Dv.kG (Kd:=ak.K) (xs:=a0) (v:=v) Q T Q (ab 0 Q) fI<|Dv.sl3 (Kd:=ak.K) Q T Q (ab 0 Q) fI iq iT (eO Q) (eO Q) (eO Q) hij hj<|.fin<|WP.seq<|so<|WP.cond Q (fun c0=>?_) (fun c0=>?_)
  · have e1:i=j:=by have:=beq_iff_eq.1 c0; omega
    subst e1
    rw [List.take_append_drop]
    refine sp ?_
    exact WP.Bc (fun _ _ h=>h) Q (⟨v,hv⟩:OV) T (.cons (aE Q) .nil) Q (uT (L:=[own ak.K v a0]) (F:=F) [0] 0 Q Q Q)
  have hlt:i<j:=by
    have:¬ ((i:Int)=(j:Int)):=by simpa using c0
    omega
  have hzl:(a0.take i++a0.drop j++a0.drop (i+(a0.length-j))).length=a0.length:=by simp only [List.length_append,List.length_take,List.length_drop]; omega
  have hpl:(i+(a0.length-j))<(a0.take i++a0.drop j++a0.drop (i+(a0.length-j))).length:=by rw [hzl]; omega
  have hfin:((a0.take i++a0.drop j++a0.drop (i+(a0.length-j))).take (i+(a0.length-j))++List.replicate ((a0.take i++a0.drop j++a0.drop (i+(a0.length-j))).length-(i+(a0.length-j))) (⟨0,eE,eE,eE,eE,false,false,0,0,0,0⟩:ak)).take (i+(a0.length-j))=a0.take i++a0.drop j:=by
    have hl:(a0.take i++a0.drop j).length=(i+(a0.length-j)):=by rw [List.length_append,List.length_take,List.length_drop]; omega
    rw [List.take_append,List.take_take,Nat.min_self,List.take_left' hl]
    have:(i+(a0.length-j))-(a0.take i++a0.drop j).length=0:=om
    rw [this,List.take_zero,List.append_nil]
  refine WP.skip<|wr 3 0<|go 1<|Dv.kG (Kd:=ak.K) (xs:=a0) (v:=v) Q T Q (ab 0 Q) fI<|go 1<|wd mX 8 64<|go 2<|Dv.slpf (Kd:=ak.K) Q T Q (ab 0 Q) fI iq iT (eO Q) (Nat.le_trans hij hj)<|go 2<|Dv.slt (Kd:=ak.K) (p:=j) Q T Q (ab 0 Q) fI iq iT (eO Q) hj<|Dv.apt (Kd:=ak.K) (jj:=0) Q T Q Q Q fI fI iq iT ⟨hlt,hj⟩ (fun _=>fF kr)<|gq 1 ?_
  refine wr 6 32<|go 2<|Dv.lenp (Kd:=ak.K) (xs:=(a0.take i++a0.drop j++a0.drop (i+(a0.length-j)))) Q T Q (ab 0 Q) fI<|go 1<|Dv.slpt (Kd:=ak.K) (xs:=(a0.take i++a0.drop j++a0.drop (i+(a0.length-j)))) (p:=(i+(a0.length-j))) (q:=a0.length) Q T Q (ab 0 Q) fI iq iT (eO Q) (eO Q) om (Nat.le_of_eq hzl.symm)<|Dv.clrt (Kd:=ak.K) (jj:=0) (⟨0,eE,eE,eE,eE,false,false,0,0,0,0⟩:ak) Q T ((show opv _ _=some (eq (tlv _ v a0.length (i+(a0.length-j)))) from Q).trans (congrArg (fun z=>some (eq (tlv _ v z (i+(a0.length-j))))) hzl.symm)) fI uZ Q Q (fun u hu=>List.all_eq_true.1 (show (Value.cells _).toList.all (fun u=>u.oneCell')=true by kernel_rfl) u hu) hpl Q nofun<|.fin<|sp ?_
  refine WP.gh (l':=fun _:Unit=>[own ak.K (pfv v (i+(a0.length-j))) (a0.take i++a0.drop j)]++F) (iO (ok:=fun _=>True) (fun R w h=>by obtain ⟨_,_,h2⟩:=Fq (m:=(i+(a0.length-j))) 0 rfl (by rw [List.length_append,List.length_take,List.length_replicate]; omega) R w h; rw [hfin] at h2; exact ⟨(),T,h2⟩)) (fun _ _=>?_)
  exact WP.Bc (fun _ _ h=>h) Q (⟨pfv v (i+(a0.length-j)),CA hv⟩:OV) T (.cons (aE Q) .nil) Q (uT (L:=[own ak.K (pfv v (i+(a0.length-j))) (a0.take i++a0.drop j)]) (F:=F) [0] 0 Q Q Q)
theorem jG.c {p0_:OV} (h:jG.f k a0 a1=some r):Tr prog 98 [eq p0_.1,agg (ak.enc a1)] [jk.O p0_ a0] (γ:=Unit) (fun _=>True) (fun g=>kN [agg (ak.enc r.1),vB r.2.1]) (fun g=>[jk.O p0_ r.2.2]):=by
 refine tf func98 h fun R0 F H=>?_
 refine wr 3 3<|Dv.box Q T Q cA nofun fun ba=>al Q T s9 nofun fun bc=>go 1<|WP.seq<|WP.seq<|wg (jk.iK 2 Q) fun ga haa=>?_
 refine dg mX 6 0<|go 1<|Dv.bW haa Q T Q<|fp haa Q T Q oL<|gl 2 [0,3]<|el H fun ta hac H=>px (B:=[own ak.K ga.2.1 a0.fl]) 4 [1,0,2,3] (cL 158) (Pt.BC _ (fc.c hac) (.cons (su (ab 0 Q)) (.cons wY .nil)) oY) ?_
 refine .fin<|ce H ?_ ?_ <;> intro H
 ·
  refine wr 3 2<|Dv.lp (qs:=[vI 0,vS eE,vS eE,vS eE,vS eE,vB false,vB false,vI 0,vI 0,vI 0,vI 0]) (css:=[]) Q T iq Ba uZ Q T Q Q<|sy 2 ?_
  refine go 1<|wg (jk.shut (p:=p0_) (m:=a0) (ga.1,ga.2) haa (pm 4 [0,1,2,3])) fun _ _=>?_
  cases H.out; exact rt i2 Q () 3 [1,2,0] 2 (.cons (au Q iq Q iT (ab 1 Q) Q) (.cons (aE Q) .nil))
 refine WP.skip<|wd mX 11 1152<|go 2<|Dv.bW haa Q T Q<|fp haa Q T Q oL<|gl 2 [0,3]<|Dv.lit ak.K ([a1]:List ak) (css:=[ak.enc a1]) Q T fI iq iT uZ Q dc dc Q ⟨(aZ (ak.K.one _)),T⟩ Q Q Q<|gr H fun gb H=>Dv.Es (Kd:=ak.K) (jj:=1) (ys:=([a1]:List ak)) (fun va:OV=>[aI ga.1 247 [vI a0.dU,eq ga.2.1,vI a0.qO],own ak.K va.1 (a0.fl++([a1]:List ak)),aI bc 52 [vI 0,vS eE,vS eE,vS eE,vS eE,vB false,vB false,vI 0,vI 0,vI 0,vI 0],aI ba 52 (ak.enc a1)]++F) Q T Q Q Q bS fI (.inr ⟨_,fI⟩) nv Q dc gb Q pD (fun va=>?_)
 refine Dv.bW haa Q T Q<|fp haa Q T Q oL<|sx 0 Q T Q Q (cells_one bK) rS Q Q Q pB ?_
 refine .fin<|WP.seq<|wd mX 10 0<|go 1<|Dv.bW haa Q T Q<|fp haa Q T Q oL<|gl 1 [0]<|Dv.kG Q T Q (ab 1 Q) fI<|go 1<|Dv.bW haa Q T Q<|fp haa Q T Q HR<|gl 2 [0]<|ce H ?_ ?_ <;> intro H
 ·
  refine wr 3 2<|Dv.lp (qs:=[vI 0,vS eE,vS eE,vS eE,vS eE,vB false,vB false,vI 0,vI 0,vI 0,vI 0]) (css:=[]) Q T iq Ba uZ Q T Q Q<|sy 2 ?_
  refine go 1<|wg (jk.shut (p:=p0_) (m:=(⟨a0.dU,a0.fl++([a1]:List ak),a0.qO⟩:jk)) (ga.1,va) haa (pm 4 [0,1,2,3])) fun _ _=>?_
  cases H.out; exact rt i2 Q () 3 [1,2,0] 2 (.cons (au Q iq Q iT (ab 1 Q) Q) (.cons (aE Q) .nil))
 refine WP.skip<|wr 8 192<|go 1<|Dv.bW haa Q T Q<|fp haa Q T Q oL<|gl 1 [0]<|gr H fun gc H=>?_
 have had:(0:Int).toNat<(a0.fl++([a1]:List ak)).length:=bE gc
 refine Dv.kA Q T Q (ab 1 Q) Q fI iq iT gc.1 gc.2<|Dv.pv (j:=((0:Int).toNat)) (f:=0) Q T Q (ab 1 Q) had iq Q iT (Nat.le_of_ble_eq_true Q)<|al Q T s9 nofun fun bd=>sy 0 ?_
 refine .fin<|wr 9 288<|go 2<|Dv.bW haa Q T Q<|fp haa Q T Q oL<|gl 1 [1]<|el H fun tc hae H=>cx 5 [2,0,1,3,4] (cL 159) (eW.c hae (p0_:=va)) nofun fun gi _=>?_
 refine Dv.bW haa Q T Q<|fp haa Q T Q oL<|sx 2 Q T Q Q (cells_one bK) rS Q Q Q nofun ?_
 refine .fin<|wr 8 128<|go 1<|Dv.bW haa Q T Q<|fp haa Q T Q C0<|gl 2 [2]<|Dv.bW haa Q T Q<|fp haa Q T Q C0<|sy 2 ?_
 refine .fin<|wr 3 2<|gl 1 [1]<|sy 3 ?_
 refine go 1<|wg (jk.shut (p:=p0_) (m:=(⟨a0.dU,tc,aw (a0.qO+1)⟩:jk)) (ga.1,gi) haa (pm 5 [2,0,1,3,4])) fun _ _=>?_
 cases H.out; exact rt i2 Q () 4 [1,2,3,0] 3 (.cons (au Q iq Q iT (ab 2 Q) Q) (.cons (aE Q) .nil))
theorem gQ.c {v0_0:OV} {b0_:Nat} (h:gQ.f a0 a1=some r):Tr prog 160 [eP b0_,vS a1] [aI b0_ 265 [vS a0.cR,eq v0_0.1],km Value.string aW.O v0_0.1 a0.aq] (γ:=Unit) (fun _=>True) (fun g=>kN [agg (Pos.enc r.1),vB r.2]) (fun g=>[aI b0_ 265 [vS a0.cR,eq v0_0.1],km Value.string aW.O v0_0.1 a0.aq]):=by
 refine tf func160 h fun R0 F H=>?_
 refine wr 2 1<|al Q T tA nofun fun ba=>go 1<|WP.seq<|wr 4 0<|go 2<|el H fun ta haa H=>px 3 [1,2,0] (cL 144) (ec.c haa (b0_:=b0_) (v0_0:=v0_0)) ?_
 refine go 1<|ce H ?_ ?_ <;> intro H
 ·
  refine wr 3 2<|Dv.lp (qs:=[vI 0,vS eE]) (css:=[]) Q T tI FO IL Q T Q Q<|sy 0 ?_
  refine gq 1 ?_
  cases H.out; exact rt i2 Q () 3 [0,1,2] 1 (.cons (au Q tI Q yh (ab 0 Q) Q) (.cons (aE Q) .nil))
 refine WP.skip<|wr 13 2048<|gl 5 [1]<|vg (mh 2 Q) fun za hac=>?_
 refine Dv.F6 iS Q T Q (ab 0 Q) Q wF (dN U9) BN (fun _=>Q)<|gr H fun ga H=>vg (qv hac Q ga (pm 4 [1,0,2,3])) fun _ _=>?_
 refine Dv.pZ aW.nn Q T Q (ab 0 Q)<|vg (aW.iK 0 Q) fun gb had=>?_
 refine fp had Q T Q yb<|gl 2 [0]<|Dv.lp (qs:=[vI (((mget a0.aq a1).getD default).cN),vS a1]) (css:=[[vI (((mget a0.aq a1).getD default).cN)],[vS a1]]) Q T tI FO IL Q ⟨(cells_one (ah Q)),⟨(cells_one (ah Q)),T⟩⟩ Q Q<|sy 3 ?_
 refine go 1<|wg (aW.shut (p:=((mget (cZ a0.aq za) a1).getD iS)) (m:=(mget a0.aq a1).getD default) gb had (pm 5 [0,1,2,3,4])) fun _ _=>?_
 refine wg (od hac Q ga (pm 5 [0,1,2,3,4])) fun _ _=>?_
 refine wg (iu hac Q (pm 4 [1,0,2,3])) fun _ _=>?_
 cases H.out; exact rt i2 Q () 3 [1,2,0] 1 (.cons (au Q tI Q yh (ab 1 Q) Q) (.cons (aE Q) .nil))
theorem fk.c {v0_0:OV} {b0_:Nat} (h:fk.f a0 a1 a2=some r):Tr prog 99 [eP b0_,vS a1,vS a2] [aI b0_ 186 [eq v0_0.1],km Value.string bf.O v0_0.1 a0.br] (γ:=Unit) (fun _=>True) (fun g=>kN [agg (Pos.enc r.1),vB r.2]) (fun g=>[aI b0_ 186 [eq v0_0.1],km Value.string bf.O v0_0.1 a0.br]):=by
 refine tf func99 h fun R0 F H=>?_
 refine wr 2 1<|al Q T tA nofun fun ba=>go 1<|wr 9 132<|go 2<|el H fun ta haa H=>cx 3 [1,2,0] (cL 88) (aO.c haa (b0_:=b0_) (v0_0:=v0_0)) nofun fun va _=>?_
 refine go 1<|vg (bf.iK 2 Q) fun ga hac=>?_
 refine el H fun tc had H=>px 5 [0,1,2,3,4] (cL 160) (Tr.jK (gQ.c had (b0_:=ga.1) (v0_0:=ga.2)) (.cons (iD hac) (.cons cM .nil))) ?_
 refine ei Q T Q Q<|ei Q T Q Q<|sy 4 ?_
 refine go 1<|wg (bf.shut (p:=va) (m:=ta) (ga.1,ga.2) hac (pm 5 [0,1,2,3,4])) fun _ _=>?_
 refine wg (fu (aO.r haa) (pm 4 [2,0,1,3])) fun _ _=>?_
 cases H.out; exact rt i2 Q () 3 [2,1,0] 1 (.cons (au Q tI Q yh (ab 2 Q) Q) (.cons (aE Q) .nil))
theorem cmp_isNaN_string.c (h:cmp_isNaN_string.f a0=some r):Pt prog 132 [vS a0] (vB r):=by
 refine pf func132 h fun R0 F H=>?_
 refine so<|sp ?_
 cases H.out; exact ek 0
theorem aD.c (h:aD.f a0 a1=some r):Pt prog 65 [vS a0,vS a1] (vI r):=by
 refine pf func65 h fun R0 F H=>?_
 refine so<|wr 3 0<|go 1<|el H fun ta haa H=>cl Q (cL 132) Q (cmp_isNaN_string.c haa)<|go 1<|wr 3 0<|go 1<|el H fun tc hac H=>cl Q (cL 132) Q (cmp_isNaN_string.c hac)<|go 1<|WP.seq<|so<|ce H ?_ ?_ <;> intro H
 ·
  refine WP.seq<|so<|ce H ?_ ?_ <;> intro H
  ·
   refine sp ?_
   cases H.out; exact ek 0
  refine WP.skip<|sp ?_
  cases H.out; exact ek 0
 refine WP.skip<|WP.seq<|so<|ce H ?_ ?_ <;> intro H
 ·
  refine sp ?_
  cases H.out; exact ek 0
 refine WP.skip<|WP.seq<|so<|ce H ?_ ?_ <;> intro H
 ·
  refine sp ?_
  cases H.out; exact ek 0
 refine WP.skip<|WP.seq<|so<|ce H ?_ ?_ <;> intro H
 ·
  refine sp ?_
  cases H.out; exact ek 0
 refine WP.skip<|sp ?_
 cases H.out; exact ek 0
theorem bD.c (h:bD.f k a0=some r):Pt prog 128 [sl (bG .i64) a0] (vI r):=by
 refine pf func128 h fun R0 F H=>?_
 refine so<|so<|sr H id [3] (fun _=>[]) (fun _=>[]) (fun pa H=>?_) (fun H=>?_)
 ·
  refine sp ?_
  cases H.out; exact ek 0
 refine wr 3 0<|go 1<|Dv.fg Q T Q qZ<|go 1<|WP.block<|ws 0 [] 0 ?_
 refine lq (fun j_ (pc:Int)=>bD.l0 k a0 j_ pc) 0 H [3,6,7] (fun pc=>[(8,vI pc)]) (fun _=>[]) ?_
 rintro j_ xc H
 rcases j_ with _ | ja
 ·
  exact (aV.no H).elim
 try dsimp only at H
 rw [bD.l0] at H
 refine so<|WP.seq<|cf H ?_ ?_ <;> intro H
 ·
  refine WP.exit ?_
  have H:=H.out
  exact jn (xc,decide (xc<(a0.length:Int))) H
 refine WP.skip<|WP.seq<|WP.block<|wr 3 0<|gr H fun ga H=>Dv.iY Q T Q Q qZ U3 c3 ga.1 ga.2<|mj Q T Q IC Q<|go 1<|so<|cf H ?_ ?_ <;> intro H
 ·
  exact WP.skip<|rg 2 0<|go 2<|bk ja (aw (xc+1)) H
 refine sp ?_
 have H:=H.fH
 cases H.out; exact ek 0
theorem cmp_isNaN_int.c (h:cmp_isNaN_int.f a0=some r):Pt prog 193 [vI a0] (vB r):=by
 refine pf func193 h fun R0 F H=>?_
 refine so<|sp ?_
 cases H.out; exact ek 0
theorem cC.c (h:cC.f a0 a1=some r):Pt prog 129 [vI a0,vI a1] (vI r):=by
 refine pf func129 h fun R0 F H=>?_
 refine so<|wr 3 0<|go 1<|el H fun ta haa H=>cl Q (cL 193) Q (cmp_isNaN_int.c haa)<|go 1<|wr 3 0<|go 1<|el H fun tc hac H=>cl Q (cL 193) Q (cmp_isNaN_int.c hac)<|go 1<|WP.seq<|so<|ce H ?_ ?_ <;> intro H
 ·
  refine WP.seq<|so<|ce H ?_ ?_ <;> intro H
  ·
   refine sp ?_
   cases H.out; exact ek 0
  refine WP.skip<|sp ?_
  cases H.out; exact ek 0
 refine WP.skip<|WP.seq<|so<|ce H ?_ ?_ <;> intro H
 ·
  refine sp ?_
  cases H.out; exact ek 0
 refine WP.skip<|WP.seq<|so<|ce H ?_ ?_ <;> intro H
 ·
  refine sp ?_
  cases H.out; exact ek 0
 refine WP.skip<|WP.seq<|so<|ce H ?_ ?_ <;> intro H
 ·
  refine sp ?_
  cases H.out; exact ek 0
 refine WP.skip<|sp ?_
 cases H.out; exact ek 0
theorem ir.c (h:ir.f k a0 a1=some r):Pt prog 161 [agg (Pos.enc a0),agg (Pos.enc a1)] (vI r):=by
 refine pf func161 h fun R0 F H=>?_
 refine wr 3 3<|Dv.box Q T Q cA nofun fun ba=>Dv.box Q T Q cA nofun fun bc=>go 1<|wd mX 13 0<|gl 4 [1,0]<|el H fun ta haa H=>cl Q (cL 129) Q (cC.c haa)<|gl 4 [1,0]<|el H fun tc hac H=>cl Q (cL 65) Q (aD.c hac)<|Dv.lit (bG .i64) ([ta,tc]:List Int) (css:=[[vI ta],[vI tc]]) Q T qZ U3 c3 z3 Q dc dc Q ⟨(cells_one (ah Q)),⟨(cells_one (ah Q)),T⟩⟩ Q Q Q<|el H fun te had H=>cl Q (cL 128) Q (bD.c had)<|gq 1 ?_
 cases H.out; exact ek 2
theorem fN.c {p0_:OV} (h:fN.f k a0 a1 a2=some r):Tr prog 100 [eq p0_.1,agg (bx.enc a1),agg (Pos.enc a2)] [jO.O p0_ a0] (γ:=Unit) (fun _=>True) (fun g=>vB r.1) (fun g=>[jO.O p0_ r.2]):=by
 refine tf func100 h fun R0 F H=>?_
 refine wr 3 3<|Dv.box Q T Q cA nofun fun ba=>Dv.box Q T Q cA nofun fun bc=>go 1<|WP.seq<|wg (jO.iK 2 Q) fun ga haa=>?_
 refine dg mX 12 1536<|go 1<|Dv.bW haa Q T Q<|fp haa Q T Q tW<|gl 2 [0,3]<|Dv.mlkq (⟨0,eE⟩:Pos) Q T Q (ab 1 Q) Q (bx.kq a1) FK BW IL (fun _=>⟨_,Q,Cs.eqz Q⟩)<|go 1<|ei Q T Q Q<|ei Q T Q Q<|al Q T tA pD fun bd=>sx 0 Q T Q Q cA Fu Q Q Q pD ?_
 refine go 1<|WP.seq<|wr 7 0<|gp 2 ?_
 cases cc:(mget a0.iH a1).isSome
 ·
  have H:=H.cf cc
  refine go 5<|WP.cond Q nofun (fun _=>?_)
  refine WP.skip<|wd mX 7 64<|go 1<|Dv.bW haa Q T Q<|fp haa Q T Q tW<|gl 3 [1,4,3]<|Dv.mupq (jj:=2) a2 Q T Q Q Q (bx.kq a1) Q FK BW (fun _=>fF kr)<|.fin<|so<|wg (jO.shut (p:=p0_) (m:=(⟨mput a0.iH a1 a2⟩:jO)) (ga.1,ga.2) haa (pm 5 [1,2,0,3,4])) fun _ _=>?_
  cases H.out; exact et () 4 [1,2,3,0] 3
 have H:=H.ct cc
 refine gl 2 [0,3]<|el H fun ta hac H=>Dv.call Q (gg Q) (cL 161) Q (ir.c hac)<|go 2<|ce H ?_ ?_ <;> intro H
 ·
  refine so<|wg (jO.shut (p:=p0_) (m:=a0) (ga.1,ga.2) haa (pm 5 [1,2,0,3,4])) fun _ _=>?_
  cases H.out; exact et () 4 [1,2,3,0] 3
 refine WP.skip<|wd mX 7 64<|go 1<|Dv.bW haa Q T Q<|fp haa Q T Q tW<|gl 3 [1,4,3]<|Dv.mupq (jj:=2) a2 Q T Q Q Q (bx.kq a1) Q FK BW (fun _=>fF kr)<|.fin<|so<|wg (jO.shut (p:=p0_) (m:=(⟨mput a0.iH a1 a2⟩:jO)) (ga.1,ga.2) haa (pm 5 [1,2,0,3,4])) fun _ _=>?_
 cases H.out; exact et () 4 [1,2,3,0] 3
theorem pT.c (h:pT.f a0=some r):Pt prog 101 [agg (ak.enc a0)] (agg (bx.enc r)):=by
 refine pf func101 h fun R0 F H=>?_
 refine wr 2 3<|Dv.box Q T Q cA nofun fun ba=>al Q T zc89 nofun fun bc=>.fin<|wr 10 512<|gl 8 [1,1,1,1]<|Dv.lp (qs:=[vS a0.aa,vS a0.ai,vS a0.ae,vB a0.ao]) (css:=[[vS a0.aa],[vS a0.ai],[vS a0.ae],[vB a0.ao]]) Q T EK Ia z89 Q ⟨(cells_one (ah Q)),⟨(cells_one (ah Q)),⟨(cells_one (ah Q)),⟨(cells_one (ah Q)),T⟩⟩⟩⟩ Q Q<|sy 0 ?_
 refine .fin ?_
 cases H.out; exact r2 i2 Q (.cons (au Q EK Q Jf (ab 0 Q) Q) .nil)
theorem ib.c {p0_ p1_:OV} (h:ib.f k a0 a1 a2=some r):Tr prog 39 [eq p0_.1,eq p1_.1,agg (ak.enc a2)] [jF.O p0_ a0,aL.O p1_ a1] (γ:=Unit) (fun _=>True) (fun g=>kN [vB r.1,vI r.2.1]) (fun g=>[jF.O p0_ r.2.2,aL.O p1_ a1]):=by
 refine tf func39 h fun R0 F H=>?_
 refine wr 3 1<|Dv.box Q T Q cA nofun fun ba=>go 2<|WP.seq<|wr 8 0<|kK 4 [0] ?_
 cases cc:(a2.aG != 1)
 rotate_left
 ·
  have H:=H.ct cc
  refine go 4<|WP.cond Q (fun _=>?_) nofun
  refine sp ?_
  cases H.out; exact et () 3 [0,1,2] 1
 have H:=H.cf cc
 refine gl 1 [0]<|el H fun ta haa H=>Dv.call Q (gg Q) (cL 96) Q (eJ.c haa)<|go 2<|ce H ?_ ?_ <;> intro H
 ·
  refine sp ?_
  cases H.out; exact et () 3 [0,1,2] 1
 refine WP.skip<|WP.seq<|wr 9 0<|gl 7 [0,0,0]<|vg (aL.iK 2 Q) fun ga hac=>?_
 refine el H fun tc had H=>px 4 [0,1,2,3] (cL 97) (Tr.jK (iM.c had (b0_:=ga.1) (v0_0:=ga.2)) (.cons (iD hac) (.cons cM (.cons cM (.cons cM .nil))))) ?_
 refine go 1<|so<|WP.block<|so<|ce H ?_ ?_ <;> intro H
 ·
  refine WP.seq<|wg (jF.iK 3 Q) fun gb hae=>?_
  refine dg mX 6 32<|go 1<|Dv.bW hae Q T Q<|fp hae Q T Q Hn<|gl 2 [0,5]<|el H fun te haf H=>cx 6 [2,0,1,3,4,5] (cL 98) (jG.c haf (p0_:=gb.2.2)) pC fun _ _=>?_
  refine .fin<|so<|wg (aL.shut (p:=p1_) (m:=a1) (ga.1,ga.2) hac (pm 6 [3,4,0,1,2,5])) fun _ _=>?_
  refine wg (jF.shut (p:=p0_) (m:=(⟨a0.qn,te.2.2⟩:jF)) (gb.1,gb.2.1,gb.2.2) hae (pm 5 [2,3,1,0,4])) fun _ _=>?_
  cases H.out; exact et () 3 [2,0,1] 1
 refine so<|cf H ?_ ?_ <;> intro H
 ·
  refine so<|wg (aL.shut (p:=p1_) (m:=a1) (ga.1,ga.2) hac (pm 4 [0,1,2,3])) fun _ _=>?_
  cases H.out; exact et () 3 [1,2,0] 1
 refine WP.skip<|wr 12 1536<|gl 5 [2,2]<|el H fun tg hag H=>px 4 [0,1,2,3] (cL 99) (Tr.jK (fk.c hag (b0_:=ga.1) (v0_0:=ga.2)) (.cons (iD hac) (.cons cM (.cons cM .nil)))) ?_
 refine go 1<|ei Q T Q Q<|ei Q T Q Q<|al Q T tA nofun fun bc=>sy 0 ?_
 refine go 1<|WP.seq<|wg (jF.iK 4 Q) fun gc hah=>?_
 refine dg mX 10 128<|go 1<|Dv.bW hah Q T Q<|fp hah Q T Q Cg<|gl 2 [0,6]<|el H fun tj hai H=>cl Q (cL 101) Q (pT.c hai)<|gl 1 [3]<|el H fun tm haj H=>cx 7 [1,0,2,3,4,5,6] (cL 100) (fN.c haj (p0_:=gc.2.1)) pC fun _ _=>?_
 refine go 2<|wg (aL.shut (p:=p1_) (m:=a1) (ga.1,ga.2) hac (pm 7 [4,5,0,1,2,3,6])) fun _ _=>?_
 refine wg (jF.shut (p:=p0_) (m:=(⟨tm.2,a0.pQ⟩:jF)) (gc.1,gc.2.1,gc.2.2) hah (pm 6 [2,1,3,0,4,5])) fun _ _=>?_
 cases H.out; exact et () 4 [2,3,0,1] 2
theorem strings_Join.c {xs:List BA} {sep r:BA} (h:strings_Join.f xs sep=some r):Tr prog 102 [sl aH xs,vS sep] [lax] (γ:=Unit) (fun _=>True) (fun _=>vS r) (fun _=>[lax]):=Tr.DB fun R F w us hu hs=>by
  obtain ⟨⟨h1,h2⟩,H⟩:=aV.an (aV.of h)
  obtain rfl:=aV.out H
  cases hu with
  | cons ha hu=>cases hu with
    | cons hb hu=>
      cases hu
      simp only [dZ] at hb
      subst hb
      rcases BL ha hs with ⟨a,c,rfl,rfl⟩ | ⟨b,off,c,rfl,hl,hlt,hc⟩
      · exact ⟨_,Q,(Tryz.strings_Join_none a c sep w).mono fun e w' ⟨he,hw⟩=>⟨he,hw ▸ Go.RowKit.Below.refl _ _⟩⟩
      · exact ⟨_,Q,Tryz.strings_Join b off c xs sep w hc hlt h1 hl h2⟩
theorem iz.c (h:iz.f a0=some r):Tr prog 41 [agg (bx.enc a0)] [lax] (γ:=Unit) (fun _=>True) (fun g=>vS r) (fun g=>[lax]):=by
 refine tf func41 h fun R0 F H=>?_
 refine wr 2 1<|Dv.box Q T Q cA nofun fun ba=>go 1<|so<|WP.seq<|r9 [0]<|cf H ?_ ?_ <;> intro H
 ·
  refine WP.skip<|wr 10 0<|gl 7 [0,0,0]<|Dv.lit aH ([(⟨#[109]⟩:BA),a0.aa,a0.ai,a0.ae,(⟨#[48]⟩:BA)]:List BA) (css:=[[vS (⟨#[109]⟩:BA)],[vS a0.aa],[vS a0.ai],[vS a0.ae],[vS (⟨#[48]⟩:BA)]]) Q T dW U9 c9 z9 Q dc dc Q ⟨(cells_one (ah Q)),⟨(cells_one (ah Q)),⟨(cells_one (ah Q)),⟨(cells_one (ah Q)),⟨(cells_one (ah Q)),T⟩⟩⟩⟩⟩ Q Q Q<|el H fun ta haa H=>px 2 [1,0] (cL 102) (strings_Join.c haa) ?_
  refine gq 1 ?_
  cases H.out; exact et () 2 [0,1] 1
 refine rg 1 0<|go 1<|wr 10 0<|gl 7 [0,0,0]<|Dv.lit aH ([(⟨#[109]⟩:BA),a0.aa,a0.ai,a0.ae,(⟨#[49]⟩:BA)]:List BA) (css:=[[vS (⟨#[109]⟩:BA)],[vS a0.aa],[vS a0.ai],[vS a0.ae],[vS (⟨#[49]⟩:BA)]]) Q T dW U9 c9 z9 Q dc dc Q ⟨(cells_one (ah Q)),⟨(cells_one (ah Q)),⟨(cells_one (ah Q)),⟨(cells_one (ah Q)),⟨(cells_one (ah Q)),T⟩⟩⟩⟩⟩ Q Q Q<|el H fun tc hac H=>px 2 [1,0] (cL 102) (strings_Join.c hac) ?_
 refine gq 1 ?_
 cases H.out; exact et () 2 [0,1] 1
theorem mf.c (h:mf.f k a0=some r):Pt prog 103 [agg (ak.enc a0)] (vB r):=by
 refine pf func103 h fun R0 F H=>?_
 refine wr 2 1<|Dv.box Q T Q cA nofun fun ba=>go 1<|wr 3 0<|gl 1 [0]<|el H fun ta haa H=>cl Q (cL 92) Q (fQ.c haa)<|go 1<|wr 7 0<|gp 2 ?_
 cases cc:ta
 ·
  have H:=H.cf cc
  refine gq 5 ?_
  cases H.out; exact ek 1
 have H:=H.ct cc
 refine GA 5 [0] ?_
 cases H.out; exact ek 1
theorem cV.c:∀ (k:Nat) {a0:Int} {r:(List Int)} (h:cV.f k a0=some r),Tr prog 229 [vI a0] [] (γ:=OV) (fun _=>True) (fun g=>eq g.1) (fun g=>[own (bG .u8) g.1 r])
  | 0,_,_,h=>by cases h
  | k+1,a0,r,h=>by
    rw [cV.f] at h
    refine tb func229 ntmps229 h fun R0 F H=>?_
    refine so<|sq H id [] (fun pa=>[(0,vI pa)]) (fun _=>[]) (fun pa H=>?_) (fun H=>?_)
    rotate_left
    ·
     refine so<|cf H ?_ ?_ <;> intro H
     ·
      refine WP.skip ?_
      have H:=H.out
      exact jn a0 H
     refine rg 1 0<|gq 1 ?_
     have H:=H.out
     exact jn 0 H
    refine WP.seq<|so<|ce H ?_ ?_ <;> intro H
    ·
     refine wr 4 4<|go 1<|Dv.HM Q T Q U3 U5<|Dv.lito (bG .u8) ([IntKind.u8.wrap (pa)]:List Int) (css:=[[eq (.int .u8 (IntKind.u8.wrap (pa)))]]) Q T iZ U5 c5 z5 Q dc dc Q ⟨(cells_one (ah Q)),T⟩ Q Q Q nofun (fun va=>?_)
     refine gq 1 ?_
     cases H.out; exact et va 1 [0] 0
    refine WP.skip<|wr 6 16<|go 1<|nV Q Q Q (qI dc)<|go 1<|Dv.HM Q T Q U3 U5<|Dv.lito (bG .u8) ([IntKind.u8.wrap (aw (128+(pa.tmod 128)))]:List Int) (css:=[[eq (.int .u8 (IntKind.u8.wrap (aw (128+(pa.tmod 128)))))]]) Q T iZ U5 c5 z5 Q dc dc Q ⟨(cells_one (ah Q)),T⟩ Q Q Q nofun (fun vb=>?_)
    refine go 1<|wr 6 24<|go 2<|nV Q Q Q (nO dc)<|el H fun ta haa H=>cx 1 [0] (cL 229) (cV.c k haa) nofun fun ga _=>?_
    refine gr H fun gb H=>ap (bG .u8) 1 ta (mQ (ab 0 Q)) iZ (.inr ⟨_,iZ⟩) rN gb nofun fun vd=>?_
    refine gq 1 ?_
    cases H.out; exact et vd 2 [0,1] 1
theorem jA.c (h:jA.f k a0=some r):Tr prog 230 [vS a0] [] (γ:=OV) (fun _=>True) (fun g=>eq g.1) (fun g=>[own (bG .u8) g.1 r]):=by
 refine tf func230 h fun R0 F H=>?_
 refine so<|wr 6 20<|go 1<|Dv.lens Q T Q U9<|el H fun ta haa H=>cx 0 [] (cL 229) (cV.c _ haa) nofun fun ga _=>?_
 refine go 1<|gr H fun gb H=>ap (bG .u8) 0 (mw a0) Ca iZ (.inl U9) rN gb nofun fun va=>?_
 refine gq 1 ?_
 cases H.out; exact et va 1 [0] 0
theorem py.c (h:py.f a0=some r):Pt prog 231 [vB a0] (sl (bG .u8) r):=by
 refine pf func231 h fun R0 F H=>?_
 refine so<|WP.seq<|so<|ce H ?_ ?_ <;> intro H
 ·
  refine wr 2 0<|Dv.lit (bG .u8) ([1]:List Int) (css:=[[eq (.int .u8 1)]]) Q T iZ U5 c5 z5 Q dc dc Q ⟨(cells_one (ah Q)),T⟩ Q Q Q<|gq 1 ?_
  cases H.out; exact ek 0
 refine WP.skip<|wr 2 0<|Dv.lit (bG .u8) ([0]:List Int) (css:=[[eq (.int .u8 0)]]) Q T iZ U5 c5 z5 Q dc dc Q ⟨(cells_one (ah Q)),T⟩ Q Q Q<|gq 1 ?_
 cases H.out; exact ek 0
theorem kU.c (h:kU.f k a0=some r):Tr prog 165 [agg (ak.enc a0)] [] (γ:=OV) (fun _=>True) (fun g=>eq g.1) (fun g=>[own (bG .u8) g.1 r]):=by
 refine tf func165 h fun R0 F H=>?_
 refine wr 2 1<|Dv.box Q T Q cA nofun fun ba=>go 1<|wr 4 4<|gl 2 [0]<|el H fun ta haa H=>cx 1 [0] (cL 229) (cV.c _ haa) nofun fun ga _=>?_
 refine go 1<|wr 6 24<|gl 3 [1]<|el H fun tc hac H=>cx 2 [0,1] (cL 230) (jA.c hac) nofun fun gb _=>?_
 refine gr H fun gc H=>ap (bG .u8) 1 tc (mQ (ab 0 Q)) iZ (.inr ⟨_,iZ⟩) rN gc nofun fun va=>?_
 refine go 1<|wr 6 24<|gl 3 [2]<|el H fun te had H=>cx 3 [0,1,2] (cL 230) (jA.c had) nofun fun gi _=>?_
 refine gr H fun gj H=>ap (bG .u8) 2 te (mQ (ab 0 Q)) iZ (.inr ⟨_,iZ⟩) rN gj nofun fun vb=>?_
 refine go 1<|wr 6 24<|gl 3 [3]<|el H fun tg hae H=>cx 4 [0,1,2,3] (cL 230) (jA.c hae) nofun fun gk _=>?_
 refine gr H fun gm H=>ap (bG .u8) 3 tg (mQ (ab 0 Q)) iZ (.inr ⟨_,iZ⟩) rN gm nofun fun vd=>?_
 refine go 1<|wr 6 24<|gl 3 [4]<|el H fun tj haf H=>cx 5 [0,1,2,3,4] (cL 230) (jA.c haf) nofun fun gn _=>?_
 refine gr H fun gu H=>ap (bG .u8) 4 tj (mQ (ab 0 Q)) iZ (.inr ⟨_,iZ⟩) rN gu nofun fun ve=>?_
 refine go 1<|wr 6 16<|gl 3 [5]<|el H fun tm hag H=>cl Q (cL 231) Q (py.c hag)<|gr H fun gv H=>ap (bG .u8) 4 tm bS iZ (.inr ⟨_,iZ⟩) rN gv nofun fun vh=>?_
 refine go 1<|wr 6 24<|gl 3 [5]<|el H fun tn hah H=>cx 6 [0,1,2,3,4,5] (cL 229) (cV.c _ hah) nofun fun gw _=>?_
 refine gr H fun gy H=>ap (bG .u8) 5 tn (mQ (ab 0 Q)) iZ (.inr ⟨_,iZ⟩) rN gy nofun fun vi=>?_
 refine go 1<|wr 6 24<|gl 3 [6]<|el H fun tp hai H=>cx 7 [0,1,2,3,4,5,6] (cL 229) (cV.c _ hai) nofun fun gz _=>?_
 refine gr H fun gaa H=>ap (bG .u8) 6 tp (mQ (ab 0 Q)) iZ (.inr ⟨_,iZ⟩) rN gaa nofun fun vj=>?_
 refine go 1<|wr 6 24<|gl 3 [7]<|el H fun tq haj H=>cx 8 [0,1,2,3,4,5,6,7] (cL 229) (cV.c _ haj) nofun fun gab _=>?_
 refine gr H fun gac H=>ap (bG .u8) 7 tq (mQ (ab 0 Q)) iZ (.inr ⟨_,iZ⟩) rN gac nofun fun vk=>?_
 refine go 1<|wr 6 24<|gl 3 [8]<|el H fun tu hak H=>cx 9 [0,1,2,3,4,5,6,7,8] (cL 229) (cV.c _ hak) nofun fun gad _=>?_
 refine gr H fun gae H=>ap (bG .u8) 8 tu (mQ (ab 0 Q)) iZ (.inr ⟨_,iZ⟩) rN gae nofun fun vl=>?_
 refine gq 1 ?_
 cases H.out; exact et vl 10 [0,1,2,3,4,5,6,7,9,8] 9
theorem iU.c (h:iU.f k a0 a1=some r):Pt prog 104 [agg (ak.enc a0),agg (ak.enc a1)] (vI r):=by
 refine pf func104 h fun R0 F H=>?_
 refine wr 3 3<|Dv.box Q T Q cA nofun fun ba=>Dv.box Q T Q cA nofun fun bc=>go 1<|WP.seq<|r9 [1,0]<|ce H ?_ ?_ <;> intro H
 ·
  refine sp ?_
  cases H.out; exact ek 2
 refine WP.skip<|WP.seq<|r9 [1,0]<|ce H ?_ ?_ <;> intro H
 ·
  refine sp ?_
  cases H.out; exact ek 2
 refine WP.skip<|wr 4 2<|gl 1 [1]<|el H fun ta haa H=>cx 2 [0,1] (cL 165) (kU.c haa) nofun fun ga _=>?_
 refine Dv.gh (nS (E':=[(0,agg (ak.enc a0)),(1,agg (ak.enc a1)),(2,eP ba),(3,eP bc),(4,vI 0),(11,vB (decide (a0.aY<a1.aY))),(16,vB (decide (a1.aY<a0.aY))),(18,sl (bG .u8) ta)]) (l':=[aI bc 52 (ak.enc a1),aI ba 52 (ak.enc a0)]++F) 0 Q (ar Q az (ar Q az (ar Q az (ar Q az (ar Q az (ar Q az (ar Q az (ar Q j4 jl)))))))) (gC (.cons bU (.cons bU .nil)) fun _=>bU)) (fun _ _=>?_)
 refine Dv.Km Q T Q iZ U5 U9<|go 1<|wr 4 2<|gl 1 [0]<|el H fun tc hac H=>cx 2 [0,1] (cL 165) (kU.c hac) nofun fun gb _=>?_
 refine Dv.gh (nS (E':=[(0,agg (ak.enc a0)),(1,agg (ak.enc a1)),(2,eP ba),(3,eP bc),(4,vI 0),(5,vS (fZ ta)),(11,vB (decide (a0.aY<a1.aY))),(16,vB (decide (a1.aY<a0.aY))),(21,sl (bG .u8) tc)]) (l':=[aI bc 52 (ak.enc a1),aI ba 52 (ak.enc a0)]++F) 0 Q (ar Q az (ar Q az (ar Q az (ar Q az (ar Q az (ar Q az (ar Q az (ar Q az (ar Q j4 jl))))))))) (gC (.cons bU (.cons bU .nil)) fun _=>bU)) (fun _ _=>?_)
 refine Dv.Km Q T Q iZ U5 U9<|go 1<|WP.seq<|so<|ce H ?_ ?_ <;> intro H
 ·
  refine sp ?_
  cases H.out; exact ek 2
 refine WP.skip<|WP.seq<|so<|ce H ?_ ?_ <;> intro H
 ·
  refine sp ?_
  cases H.out; exact ek 2
 refine WP.skip<|sp ?_
 cases H.out; exact ek 2
theorem cU.c (h:cU.f k a0 a1=some r):Pt prog 42 [agg (kE.enc a0),agg (ak.enc a1)] (kN [agg (kE.enc r.1),vB r.2.1,vI r.2.2]):=by
 refine pf func42 h fun R0 F H=>?_
 refine wr 5 7<|Dv.box Q T Q cA nofun fun ba=>Dv.box Q T Q cA nofun fun bc=>al Q T Kq nofun fun bd=>go 2<|wr 3 0<|gl 1 [1]<|el H fun ta haa H=>cl Q (cL 103) Q (mf.c haa)<|go 1<|WP.seq<|wr 7 0<|kK 4 [1] ?_
 cases cc:(a1.aG != 2)
 rotate_left
 ·
  have H:=H.ct cc
  refine go 3<|WP.cond Q (fun _=>?_) nofun
  refine wr 4 2<|gl 1 [2]<|sy 0 ?_
  refine gq 2 ?_
  cases H.out; exact r3 i2 Q (.cons (au Q U37 Q c37 (ab 0 Q) Q) (.cons (aE Q) (.cons (aE Q) .nil)))
 have H:=H.cf cc
 refine go 3<|ce H ?_ ?_ <;> intro H
 ·
  refine wr 4 2<|gl 1 [2]<|sy 0 ?_
  refine gq 2 ?_
  cases H.out; exact r3 i2 Q (.cons (au Q U37 Q c37 (ab 0 Q) Q) (.cons (aE Q) (.cons (aE Q) .nil)))
 refine WP.skip<|wr 1 1<|al Q T Kq nofun fun be=>.fin<|so<|WP.xS H (fun qh:(Bool×Int×Bool×(List ak)×(List Bool))×OV×OV=>qh.1) (fun qh=>[(3,eP bc),(4,eP bd),(8,eP be),(9,vB qh.1.1)]) (fun qh=>[aI be 37 [eq qh.2.1.1,eq qh.2.2.1],aI bd 37 [eN,eN],aI bc 52 (ak.enc a1),aI ba 37 (kE.enc a0),own ak.K qh.2.1.1 qh.1.2.2.2.1,own dj qh.2.2.1 qh.1.2.2.2.2]++F) (fun qh H=>?_) (fun H=>?_)
 ·
  obtain ⟨pa,va,vb⟩:=qh
  refine WP.seq<|so<|cf H ?_ ?_ <;> intro H
  ·
   refine WP.skip<|wr 4 2<|gl 1 [0]<|sy 1 ?_
   refine go 2<|fz 4 [4,5,6] [1,1] ?_
   refine fz 4 [4,5,6] [1,1] ?_
   cases H.out; exact r4 i2 Q (.cons (au Q U37 Q c37 (ab 1 Q) Q) (.cons (aE Q) (.cons (aE Q) .nil)))
  refine wr 7 80<|gl 3 [0,2]<|Dv.lit ak.K ([a1]:List ak) (css:=[ak.enc a1]) Q T fI iq iT uZ Q dc dc Q ⟨(aZ (ak.K.one _)),T⟩ Q Q Q<|gr H fun ga H=>ap ak.K 4 ([a1]:List ak) bS fI (.inr ⟨_,fI⟩) nv ga nofun fun vd=>?_
  refine go 1<|sx 0 Q T Q Q (cells_one bK) rS Q Q Q nofun ?_
  refine .fin<|rg 6 40<|gl 2 [0]<|Dv.lit dj ([false]:List Bool) (css:=[[vB false]]) Q T rZ U4 c4 z4 Q dc dc Q ⟨(cells_one (ah Q)),T⟩ Q Q Q<|gr H fun gb H=>ap dj 5 ([false]:List Bool) bS rZ (.inr ⟨_,rZ⟩) Ag gb nofun fun ve=>?_
  refine go 1<|sx 0 Q T Q Q (cells_one bK) AO Q Q Q nofun ?_
  refine .fin<|wr 4 2<|gl 1 [0]<|sy 1 ?_
  refine go 2<|fz 4 [4,5,6] [1,1] ?_
  refine fz 4 [4,5,6] [1,1] ?_
  cases H.out; exact r4 i2 Q (.cons (au Q U37 Q c37 (ab 1 Q) Q) (.cons (aE Q) (.cons (aE Q) .nil)))
 refine so<|WP.block<|wg (eD ak.K none) fun _ _=>?_
 refine wg (eD dj none) fun _ _=>?_
 refine ws 6 [2,3,4,5,1,0] 0 ?_
 refine lq (fun j_ (pc:Bool×Int×(List ak)×(List Bool)×OV×OV)=>cU.l0 k a0 a1 j_ pc.1 pc.2.1 pc.2.2.1 pc.2.2.2.1) (false,0,([]:List ak),([]:List Bool),lA,Fs) H [2,3,4,8] (fun pc=>[(9,vB pc.1),(10,vI pc.2.1)]) (fun pc=>[(0,aI be 37 [eq pc.2.2.2.2.1.1,eq pc.2.2.2.2.2.1]),(4,own ak.K pc.2.2.2.2.1.1 pc.2.2.1),(5,own dj pc.2.2.2.2.2.1 pc.2.2.2.1)]) ?_
 rintro j_ ⟨xc,xd,xe,xf,vh,vi⟩ H
 rcases j_ with _ | ja
 ·
  exact (aV.no H).elim
 try dsimp only at H
 rw [cU.l0] at H
 refine WP.seq<|wr 5 0<|gl 3 [3]<|Dv.fg Q T Q fI<|go 1<|cf H ?_ ?_ <;> intro H
 ·
  refine WP.exit ?_
  have H:=H.out
  exact jn ((xc,xd,decide (xd<(a0.fL.length:Int)),xe,xf),vh,vi) H
 refine WP.skip<|WP.seq<|WP.block<|wr 7 96<|gl 3 [3]<|gr H fun gc H=>Dv.iY Q T Q Q fI iq iT gc.1 gc.2<|kM Q T Q wU Q<|al Q T s9 nofun fun bg=>sy 0 ?_
 refine .fin<|WP.seq<|wr 12 0<|kK 6 [0,3] ?_
 cases cg:decide (((ak.K.at a0.fL xd).aa)=a1.aa)
 ·
  have H:=H.cf cg
  refine go 6<|WP.cond Q nofun (fun _=>?_)
  refine WP.skip<|WP.lf H (fun qi:(Bool×Bool×(List ak)×(List Bool))×OV×OV=>qi.1) (fun qi=>[(2,eP ba),(3,eP bc),(4,eP bd),(8,eP be),(9,vB qi.1.1),(10,vI xd),(11,eP bg)]) (fun qi=>[aI bg 52 (ak.enc (ak.K.at a0.fL xd)),aI be 37 [eq qi.2.1.1,eq qi.2.2.1],aI bd 37 [eN,eN],aI bc 52 (ak.enc a1),aI ba 37 (kE.enc a0),own ak.K qi.2.1.1 qi.1.2.2.1,own dj qi.2.2.1 qi.1.2.2.2]++F) (fun qi H=>?_) (fun H=>?_)
  ·
   obtain ⟨pe,vj,vk⟩:=qi
   refine wr 7 80<|gl 3 [1,0]<|Dv.lit ak.K ([ak.K.at a0.fL xd]:List ak) (css:=[ak.enc (ak.K.at a0.fL xd)]) Q T fI iq iT uZ Q dc dc Q ⟨(aZ (ak.K.one _)),T⟩ Q Q Q<|gr H fun gi H=>ap ak.K 5 ([ak.K.at a0.fL xd]:List ak) bS fI (.inr ⟨_,fI⟩) nv gi nofun fun vl=>?_
   refine go 1<|sx 1 Q T Q Q (cells_one bK) rS Q Q Q nofun ?_
   refine .fin<|dg mX 11 1280<|gl 5 [1,4]<|gr H fun gj H=>Dv.iY Q T Q Q rZ U4 c4 gj.1 gj.2<|mj Q T Q sc4 Q<|Dv.lit dj ([dj.at a0.eF xd]:List Bool) (css:=[[vB (dj.at a0.eF xd)]]) Q T rZ U4 c4 z4 Q dc dc Q ⟨(cells_one (ah Q)),T⟩ Q Q Q<|gr H fun gk H=>ap dj 6 ([dj.at a0.eF xd]:List Bool) bS rZ (.inr ⟨_,rZ⟩) Ag gk pB fun vm=>?_
   refine go 1<|sx 1 Q T Q Q (cells_one bK) AO Q Q Q pB ?_
   refine .fin<|rg 3 0<|go 3<|ns 7 [0,1,2,3,4,5,6] 1 ?_
   exact bk ja (pe.1,aw (xd+1),pe.2.2.1++([ak.K.at a0.fL xd]:List ak),pe.2.2.2++([dj.at a0.eF xd]:List Bool),vl,vm) H
  refine wr 23 0<|gp 3 ?_
  cases ci:!xc
  ·
   have H:=H.cf ci
   refine go 20<|WP.cond Q nofun (fun _=>?_)
   refine WP.skip ?_
   have H:=H.out
   exact jn ((xc,false,xe,xf),vh,vi) H
  have H:=H.ct ci
  refine kK 6 [3,0] ?_
  cases cj:dO a1.aa ((ak.K.at a0.fL xd).aa)
  rotate_left
  ·
   have H:=H.ct cj
   refine go 14<|WP.cond Q (fun _=>?_) nofun
   refine wr 7 80<|gl 3 [1,3]<|Dv.lit ak.K ([a1]:List ak) (css:=[ak.enc a1]) Q T fI iq iT uZ Q dc dc Q ⟨(aZ (ak.K.one _)),T⟩ Q Q Q<|gr H fun gm H=>ap ak.K 5 ([a1]:List ak) bS fI (.inr ⟨_,fI⟩) nv gm nofun fun vn=>?_
   refine go 1<|sx 1 Q T Q Q (cells_one bK) rS Q Q Q nofun ?_
   refine .fin<|wr 6 40<|gl 2 [1]<|Dv.lit dj ([false]:List Bool) (css:=[[vB false]]) Q T rZ U4 c4 z4 Q dc dc Q ⟨(cells_one (ah Q)),T⟩ Q Q Q<|gr H fun gn H=>ap dj 6 ([false]:List Bool) bS rZ (.inr ⟨_,rZ⟩) Ag gn nofun fun vo=>?_
   refine go 1<|sx 1 Q T Q Q (cells_one bK) AO Q Q Q nofun ?_
   refine .fin<|rg 1 0<|gq 1 ?_
   have H:=H.out
   exact jn ((true,true,xe++([a1]:List ak),xf++([false]:List Bool)),vn,vo) H
  have H:=H.cf cj
  refine kK 6 [3,0] ?_
  cases ck:decide (a1.aa=((ak.K.at a0.fL xd).aa))
  ·
   have H:=H.cf ck
   refine go 8<|WP.cond Q nofun (fun _=>?_)
   refine WP.skip ?_
   have H:=H.out
   exact jn ((xc,false,xe,xf),vh,vi) H
  have H:=H.ct ck
  refine gl 8 [3,0]<|cf H ?_ ?_ <;> intro H
  ·
   refine WP.skip ?_
   have H:=H.out
   exact jn ((xc,dO a1.ai ((ak.K.at a0.fL xd).ai),xe,xf),vh,vi) H
  refine wr 7 80<|gl 3 [1,3]<|Dv.lit ak.K ([a1]:List ak) (css:=[ak.enc a1]) Q T fI iq iT uZ Q dc dc Q ⟨(aZ (ak.K.one _)),T⟩ Q Q Q<|gr H fun gu H=>ap ak.K 5 ([a1]:List ak) bS fI (.inr ⟨_,fI⟩) nv gu nofun fun vq=>?_
  refine go 1<|sx 1 Q T Q Q (cells_one bK) rS Q Q Q nofun ?_
  refine .fin<|wr 6 40<|gl 2 [1]<|Dv.lit dj ([false]:List Bool) (css:=[[vB false]]) Q T rZ U4 c4 z4 Q dc dc Q ⟨(cells_one (ah Q)),T⟩ Q Q Q<|gr H fun gv H=>ap dj 6 ([false]:List Bool) bS rZ (.inr ⟨_,rZ⟩) Ag gv nofun fun vr=>?_
  refine go 1<|sx 1 Q T Q Q (cells_one bK) AO Q Q Q nofun ?_
  refine .fin<|rg 1 0<|gq 1 ?_
  have H:=H.out
  exact jn ((true,dO a1.ai ((ak.K.at a0.fL xd).ai),xe++([a1]:List ak),xf++([false]:List Bool)),vq,vr) H
 have H:=H.ct cg
 refine gl 6 [0,3]<|ce H ?_ ?_ <;> intro H
 ·
  refine WP.seq<|wr 4 0<|gl 2 [3,0]<|el H fun tc hac H=>cl Q (cL 104) Q (iU.c hac)<|go 1<|cf H ?_ ?_ <;> intro H
  ·
   refine WP.skip<|WP.exit<|rg 3 0<|go 3<|ns 7 [0,1,2,3,4,5,6] 1 ?_
   exact bk ja (xc,aw (xd+1),xe,xf,vh,vi) H
  refine wr 4 2<|gl 1 [4]<|sy 2 ?_
  refine gq 2 ?_
  have H:=H.fH
  cases H.out; exact rt i2 Q () 7 [0,1,2,3,4,5,6] 7 (.cons (au Q U37 Q c37 (ab 2 Q) Q) (.cons (aE Q) (.cons (aE Q) .nil)))
 refine WP.skip<|WP.lf H (fun qj:(Bool×Bool×(List ak)×(List Bool))×OV×OV=>qj.1) (fun qj=>[(2,eP ba),(3,eP bc),(4,eP bd),(8,eP be),(9,vB qj.1.1),(10,vI xd),(11,eP bg)]) (fun qj=>[aI bg 52 (ak.enc (ak.K.at a0.fL xd)),aI be 37 [eq qj.2.1.1,eq qj.2.2.1],aI bd 37 [eN,eN],aI bc 52 (ak.enc a1),aI ba 37 (kE.enc a0),own ak.K qj.2.1.1 qj.1.2.2.1,own dj qj.2.2.1 qj.1.2.2.2]++F) (fun qj H=>?_) (fun H=>?_)
 ·
  obtain ⟨pg,vt,vu⟩:=qj
  refine wr 7 80<|gl 3 [1,0]<|Dv.lit ak.K ([ak.K.at a0.fL xd]:List ak) (css:=[ak.enc (ak.K.at a0.fL xd)]) Q T fI iq iT uZ Q dc dc Q ⟨(aZ (ak.K.one _)),T⟩ Q Q Q<|gr H fun gw H=>ap ak.K 5 ([ak.K.at a0.fL xd]:List ak) bS fI (.inr ⟨_,fI⟩) nv gw nofun fun vv=>?_
  refine go 1<|sx 1 Q T Q Q (cells_one bK) rS Q Q Q nofun ?_
  refine .fin<|dg mX 11 1280<|gl 5 [1,4]<|gr H fun gy H=>Dv.iY Q T Q Q rZ U4 c4 gy.1 gy.2<|mj Q T Q sc4 Q<|Dv.lit dj ([dj.at a0.eF xd]:List Bool) (css:=[[vB (dj.at a0.eF xd)]]) Q T rZ U4 c4 z4 Q dc dc Q ⟨(cells_one (ah Q)),T⟩ Q Q Q<|gr H fun gz H=>ap dj 6 ([dj.at a0.eF xd]:List Bool) bS rZ (.inr ⟨_,rZ⟩) Ag gz pB fun vx=>?_
  refine go 1<|sx 1 Q T Q Q (cells_one bK) AO Q Q Q pB ?_
  refine .fin<|rg 3 0<|go 3<|ns 7 [0,1,2,3,4,5,6] 1 ?_
  exact bk ja (pg.1,aw (xd+1),pg.2.2.1++([ak.K.at a0.fL xd]:List ak),pg.2.2.2++([dj.at a0.eF xd]:List Bool),vv,vx) H
 refine wr 23 0<|gp 3 ?_
 cases cn:!xc
 ·
  have H:=H.cf cn
  refine go 20<|WP.cond Q nofun (fun _=>?_)
  refine WP.skip ?_
  have H:=H.out
  exact jn ((xc,false,xe,xf),vh,vi) H
 have H:=H.ct cn
 refine kK 6 [3,0] ?_
 cases co:dO a1.aa ((ak.K.at a0.fL xd).aa)
 rotate_left
 ·
  have H:=H.ct co
  refine go 14<|WP.cond Q (fun _=>?_) nofun
  refine wr 7 80<|gl 3 [1,3]<|Dv.lit ak.K ([a1]:List ak) (css:=[ak.enc a1]) Q T fI iq iT uZ Q dc dc Q ⟨(aZ (ak.K.one _)),T⟩ Q Q Q<|gr H fun gaa H=>ap ak.K 5 ([a1]:List ak) bS fI (.inr ⟨_,fI⟩) nv gaa nofun fun vy=>?_
  refine go 1<|sx 1 Q T Q Q (cells_one bK) rS Q Q Q nofun ?_
  refine .fin<|wr 6 40<|gl 2 [1]<|Dv.lit dj ([false]:List Bool) (css:=[[vB false]]) Q T rZ U4 c4 z4 Q dc dc Q ⟨(cells_one (ah Q)),T⟩ Q Q Q<|gr H fun gab H=>ap dj 6 ([false]:List Bool) bS rZ (.inr ⟨_,rZ⟩) Ag gab nofun fun vz=>?_
  refine go 1<|sx 1 Q T Q Q (cells_one bK) AO Q Q Q nofun ?_
  refine .fin<|rg 1 0<|gq 1 ?_
  have H:=H.out
  exact jn ((true,true,xe++([a1]:List ak),xf++([false]:List Bool)),vy,vz) H
 have H:=H.cf co
 refine kK 6 [3,0] ?_
 cases cp:decide (a1.aa=((ak.K.at a0.fL xd).aa))
 ·
  have H:=H.cf cp
  refine go 8<|WP.cond Q nofun (fun _=>?_)
  refine WP.skip ?_
  have H:=H.out
  exact jn ((xc,false,xe,xf),vh,vi) H
 have H:=H.ct cp
 refine gl 8 [3,0]<|cf H ?_ ?_ <;> intro H
 ·
  refine WP.skip ?_
  have H:=H.out
  exact jn ((xc,dO a1.ai ((ak.K.at a0.fL xd).ai),xe,xf),vh,vi) H
 refine wr 7 80<|gl 3 [1,3]<|Dv.lit ak.K ([a1]:List ak) (css:=[ak.enc a1]) Q T fI iq iT uZ Q dc dc Q ⟨(aZ (ak.K.one _)),T⟩ Q Q Q<|gr H fun gac H=>ap ak.K 5 ([a1]:List ak) bS fI (.inr ⟨_,fI⟩) nv gac nofun fun vaa=>?_
 refine go 1<|sx 1 Q T Q Q (cells_one bK) rS Q Q Q nofun ?_
 refine .fin<|wr 6 40<|gl 2 [1]<|Dv.lit dj ([false]:List Bool) (css:=[[vB false]]) Q T rZ U4 c4 z4 Q dc dc Q ⟨(cells_one (ah Q)),T⟩ Q Q Q<|gr H fun gad H=>ap dj 6 ([false]:List Bool) bS rZ (.inr ⟨_,rZ⟩) Ag gad nofun fun vab=>?_
 refine go 1<|sx 1 Q T Q Q (cells_one bK) AO Q Q Q nofun ?_
 refine .fin<|rg 1 0<|gq 1 ?_
 have H:=H.out
 exact jn ((true,dO a1.ai ((ak.K.at a0.fL xd).ai),xe++([a1]:List ak),xf++([false]:List Bool)),vaa,vab) H
theorem me.c (h:me.f k a0=some r):Pt prog 105 [agg (ak.enc a0)] (vB r):=by
 refine pf func105 h fun R0 F H=>?_
 refine wr 2 1<|Dv.box Q T Q cA nofun fun ba=>go 1<|wr 8 0<|gl 1 [0]<|el H fun ta haa H=>cl Q (cL 96) Q (eJ.c haa)<|gp 1 ?_
 cases cc:ta
 ·
  have H:=H.cf cc
  refine gq 5 ?_
  cases H.out; exact ek 1
 have H:=H.ct cc
 refine GA 5 [0] ?_
 cases H.out; exact ek 1
theorem slices_BinarySearchFunc_Edu_Edu.c (h:slices_BinarySearchFunc_Edu_Edu.f k a0 a1 a2=some r):Pt prog 166 [sl ak.K a0,agg (ak.enc a1),o5 a2] (kN [vI r.1,vB r.2]):=by
 refine pf func166 h fun R0 F H=>?_
 refine wr 3 1<|Dv.box Q T Q cA nofun fun ba=>go 2<|wr 3 0<|go 1<|Dv.fg Q T Q fI<|go 1<|so<|sq H id [0,2,4,8] (fun pa=>[(9,vI pa.1)]) (fun _=>[]) (fun pa H=>?_) (fun H=>?_)
 ·
  refine wd mX 16 0<|gp 5 ?_
  cases cc:decide (pa.1<(a0.length:Int))
  ·
   have H:=H.cf cc
   refine gq 11 ?_
   cases H.out; exact ek 1
  have H:=H.ct cc
  refine go 3<|gr H fun ga H=>Dv.iY Q (gg Q) Q Q fI iq iT ga.1 ga.2<|kM Q (gg Q) Q wU Q<|gl 1 [0]<|el H fun ta haa H=>Dv.rO (ret:=vI ta) Q (gg Q) Q Q ⟨_,_,_,haa,Q,Q⟩<|gq 4 ?_
  cases H.out; exact ek 1
 refine WP.block<|ws 1 [0] 0 ?_
 refine lq (fun j_ (pc:Int×Int)=>slices_BinarySearchFunc_Edu_Edu.l0 k a0 a1 a2 j_ pc.1 pc.2) (0,(a0.length:Int)) H [0,2,4,8] (fun pc=>[(9,vI pc.1),(10,vI pc.2)]) (fun _=>[]) ?_
 rintro j_ ⟨xc,xd⟩ H
 rcases j_ with _ | ja
 ·
  exact (aV.no H).elim
 try dsimp only at H
 rw [slices_BinarySearchFunc_Edu_Edu.l0] at H
 refine WP.seq<|so<|cf H ?_ ?_ <;> intro H
 ·
  refine WP.exit ?_
  have H:=H.out
  exact jn (xc,xd,decide (xc<xd)) H
 refine WP.skip<|WP.block<|wr 7 0<|go 3<|Dv.HM Q T Q U3 Is<|nV Q Q Q (Ch dc)<|Dv.HM Q T Q Is U3<|go 1<|wd mX 8 0<|go 3<|gr H fun gb H=>Dv.iY Q T Q Q fI iq iT gb.1 gb.2<|kM Q T Q wU Q<|gl 1 [0]<|el H fun tc hac H=>Dv.rO (ret:=vI tc) Q T Q Q ⟨_,_,_,hac,Q,Q⟩<|go 1<|cf H ?_ ?_ <;> intro H
 ·
  exact rg 2 0<|go 2<|bk ja (xc,aw ((IntKind.u64.wrap (aw (xc+xd))).fdiv 2)) H
 exact rg 3 0<|go 3<|bk ja (aw ((aw ((IntKind.u64.wrap (aw (xc+xd))).fdiv 2))+1),xd) H
theorem dR.c (h:dR.f k a0 a1=some r):Pt prog 167 [agg (ak.enc a0),agg (ak.enc a1)] (vI r):=by
 refine pf func167 h fun R0 F H=>?_
 refine wr 3 3<|Dv.box Q T Q cA nofun fun ba=>Dv.box Q T Q cA nofun fun bc=>go 1<|wd mX 13 0<|gl 4 [1,0]<|el H fun ta haa H=>cl Q (cL 65) Q (aD.c haa)<|gl 4 [1,0]<|el H fun tc hac H=>cl Q (cL 65) Q (aD.c hac)<|Dv.lit (bG .i64) ([ta,tc]:List Int) (css:=[[vI ta],[vI tc]]) Q T qZ U3 c3 z3 Q dc dc Q ⟨(cells_one (ah Q)),⟨(cells_one (ah Q)),T⟩⟩ Q Q Q<|el H fun te had H=>cl Q (cL 128) Q (bD.c had)<|gq 1 ?_
 cases H.out; exact ek 2
theorem dP.c {v0_0 v0_1:OV} {b0_:Nat} (h:dP.f k a0 a1=some r):Tr prog 106 [eP b0_,agg (ak.enc a1)] [aI b0_ 190 [eq v0_0.1,eq v0_1.1],own ak.K v0_0.1 a0.fl] (γ:=Unit) (fun _=>True) (fun g=>kN [vI r.1,vB r.2]) (fun g=>[aI b0_ 190 [eq v0_0.1,eq v0_1.1],own ak.K v0_0.1 a0.fl]):=by
 refine tf func106 h fun R0 F H=>?_
 refine wr 3 1<|Dv.box Q T Q cA nofun fun ba=>go 2<|wd mX 10 0<|gl 5 [1,0]<|el H fun ta haa H=>px (B:=[own ak.K v0_0.1 a0.fl]) 3 [2,0,1] (cL 166) (Pt.BC _ (Pt.jK (slices_BinarySearchFunc_Edu_Edu.c haa) (.cons cM (.cons cM (.cons (v7 (cL 167) (by rintro _ _ ⟨a0_,a1_,r_,h_,rfl,rfl⟩; exact dR.c h_)) .nil)))) (.cons (su (ab 0 Q)) (.cons wY (.cons wY .nil))) (zf (oK oY (oK oY xt)))) ?_
 refine ei Q T Q Q<|ei Q T Q Q<|gq 2 ?_
 cases H.out; exact et () 3 [0,1,2] 1
theorem p9.c (h:p9.f a0=some r):Pt prog 168 [agg (ak.enc a0)] (agg (uA.enc r)):=by
 refine pf func168 h fun R0 F H=>?_
 refine wr 2 3<|Dv.box Q T Q cA nofun fun ba=>al Q T zc294 nofun fun bc=>.fin<|wr 12 2048<|gl 10 [1,1,1,1,1]<|Dv.lp (qs:=[vI a0.aG,vS a0.aa,vS a0.ai,vS a0.ae,vB a0.ao]) (css:=[[vI a0.aG],[vS a0.aa],[vS a0.ai],[vS a0.ae],[vB a0.ao]]) Q T Kl pl294 z294 Q ⟨(cells_one (ah Q)),⟨(cells_one (ah Q)),⟨(cells_one (ah Q)),⟨(cells_one (ah Q)),⟨(cells_one (ah Q)),T⟩⟩⟩⟩⟩ Q Q<|sy 0 ?_
 refine .fin ?_
 cases H.out; exact r2 i2 Q (.cons (au Q Kl Q c294 (ab 0 Q) Q) .nil)
theorem kB.c (h:kB.f a0 a1=some r):Pt prog 232 [sl (bG .u8) a0,sl (bG .u8) a1] (vI r):=by
 refine pf func232 h fun R0 F H=>?_
 refine so<|wr 4 0<|go 2<|Dv.KB Q T Q (Kv func260 kr Q xf260 xg260)<|gq 1 ?_
 cases H.out; exact ek 0
theorem cF.c {p0_:OV} (h:cF.f k a0 a1=some r):Tr prog 261 [eq p0_.1,vI a1] [own (bG .u8) p0_.1 a0] (γ:=OV) (fun _=>True) (fun g=>eq g.1) (fun g=>[own (bG .u8) g.1 r]):=by
 refine tf func261 h fun R0 F H=>?_
 refine so<|wr 3 0<|go 1<|Dv.IA Q T Q Q<|go 1<|wr 7 32<|go 2<|Dv.kG Q T Q (ab 0 Q) iZ<|go 1<|Dv.kG Q T Q (ab 0 Q) iZ<|gr H fun ga H=>Dv.slo (jj:=0) Q T Q Q iZ U5 c5 dC (eV Q ga.1) (.inr ⟨⟨_,_,Q,ga.1,Q⟩,Q,Q⟩) ga.2.1 ga.2.2 nofun (fun va=>?_)
 refine go 1<|sq H (fun qh:(Int×Bool×(List Int))×OV=>qh.1) [] (fun qh=>[(0,eq qh.2.1),(1,vI qh.1.1)]) (fun qh=>[(0,own (bG .u8) qh.2.1 qh.1.2.2)]) (fun qh H=>?_) (fun H=>?_)
 ·
  obtain ⟨pa,vb⟩:=qh
  refine wr 6 16<|go 2<|Dv.HM Q T Q U3 U5<|Dv.lit (bG .u8) ([IntKind.u8.wrap (pa.1)]:List Int) (css:=[[eq (.int .u8 (IntKind.u8.wrap (pa.1)))]]) Q T iZ U5 c5 z5 Q dc dc Q ⟨(cells_one (ah Q)),T⟩ Q Q Q<|gr H fun gb H=>ap (bG .u8) 0 ([IntKind.u8.wrap (pa.1)]:List Int) bS iZ (.inr ⟨_,iZ⟩) rN gb nofun fun vd=>?_
  refine gq 1 ?_
  cases H.out; exact et vd 1 [0] 0
 refine WP.block<|ws 1 [0] 0 ?_
 refine lq (fun j_ (pc:Int×(List Int)×OV)=>cF.l0 k j_ pc.1 pc.2.1) (max a1 0,(a0.take ((a0.length:Int).toNat)).drop 0,va) H [] (fun pc=>[(0,eq pc.2.2.1),(1,vI pc.1)]) (fun pc=>[(0,own (bG .u8) pc.2.2.1 pc.2.1)]) ?_
 rintro j_ ⟨xc,xd,ve⟩ H
 rcases j_ with _ | ja
 ·
  exact (aV.no H).elim
 try dsimp only at H
 rw [cF.l0] at H
 refine WP.seq<|so<|cf H ?_ ?_ <;> intro H
 ·
  refine WP.exit ?_
  have H:=H.out
  exact jn ((xc,decide (128≤xc),xd),ve) H
 refine WP.skip<|WP.seq<|WP.block<|rg 8 64<|go 2<|nV Q Q Q (qI dc)<|go 1<|Dv.HM Q T Q U3 U5<|Dv.lit (bG .u8) ([IntKind.u8.wrap (aw ((xc.tmod 128)+128))]:List Int) (css:=[[eq (.int .u8 (IntKind.u8.wrap (aw ((xc.tmod 128)+128))))]]) Q T iZ U5 c5 z5 Q dc dc Q ⟨(cells_one (ah Q)),T⟩ Q Q Q<|gr H fun gc H=>ap (bG .u8) 0 ([IntKind.u8.wrap (aw ((xc.tmod 128)+128))]:List Int) bS iZ (.inr ⟨_,iZ⟩) rN gc nofun fun vh=>?_
 exact go 1<|rg 3 0<|go 1<|nV Q Q Q (nO dc)<|go 1<|bk ja (aw (xc.tdiv 128),xd++([IntKind.u8.wrap (aw ((xc.tmod 128)+128))]:List Int),vh) H
theorem oy.c {p0_:OV} (h:oy.f k a0 a1=some r):Tr prog 262 [eq p0_.1,vS a1] [own (bG .u8) p0_.1 a0] (γ:=OV) (fun _=>True) (fun g=>eq g.1) (fun g=>[own (bG .u8) g.1 r]):=by
 refine tf func262 h fun R0 F H=>?_
 refine so<|wr 7 40<|go 2<|Dv.lens Q T Q U9<|el H fun ta haa H=>cx 1 [0] (cL 261) (cF.c haa (p0_:=p0_)) nofun fun ga _=>?_
 refine go 1<|gr H fun gb H=>ap (bG .u8) 0 (mw a1) Ca iZ (.inl U9) rN gb nofun fun va=>?_
 refine gq 1 ?_
 cases H.out; exact et va 1 [0] 0
theorem oB.c {p0_:OV} (h:oB.f k a0 a1=some r):Tr prog 263 [eq p0_.1,vB a1] [own (bG .u8) p0_.1 a0] (γ:=OV) (fun _=>True) (fun g=>eq g.1) (fun g=>[own (bG .u8) g.1 r]):=by
 refine tf func263 h fun R0 F H=>?_
 refine so<|WP.seq<|so<|ce H ?_ ?_ <;> intro H
 ·
  refine wr 3 2<|go 1<|el H fun ta haa H=>cx 1 [0] (cL 261) (cF.c haa (p0_:=p0_)) nofun fun ga _=>?_
  refine gq 1 ?_
  cases H.out; exact et ga 1 [0] 0
 refine WP.skip<|wr 3 2<|go 1<|el H fun tc hac H=>cx 1 [0] (cL 261) (cF.c hac (p0_:=p0_)) nofun fun gb _=>?_
 refine gq 1 ?_
 cases H.out; exact et gb 1 [0] 0
theorem cT.c (h:cT.f k a0=some r):Tr prog 233 [agg (ak.enc a0)] [] (γ:=OV) (fun _=>True) (fun g=>eq g.1) (fun g=>[own (bG .u8) g.1 r]):=by
 refine tf func233 h fun R0 F H=>?_
 refine wr 2 1<|Dv.box Q T Q cA nofun fun ba=>go 1<|wr 4 4<|gl 2 [0]<|vg (eD (bG .u8) none) fun _ _=>?_
 refine el H fun ta haa H=>cx 2 [0,1] (cL 261) (cF.c haa (p0_:=lA)) nofun fun ga _=>?_
 refine go 1<|WP.lf H (fun qh:(Int×Bool×(List Int))×OV=>qh.1) (fun qh=>[(1,eP ba),(3,eq qh.2.1)]) (fun qh=>[aI ba 52 (ak.enc a0),own (bG .u8) qh.2.1 qh.1.2.2]++F) (fun qh H=>?_) (fun H=>?_)
 rotate_left
 ·
  refine wr 11 0<|gl 8 [1,1,1,1]<|Dv.lit aH ([a0.aa,a0.ai,a0.bC,a0.ae]:List BA) (css:=[[vS a0.aa],[vS a0.ai],[vS a0.bC],[vS a0.ae]]) Q T dW U9 c9 z9 Q dc dc Q ⟨(cells_one (ah Q)),⟨(cells_one (ah Q)),⟨(cells_one (ah Q)),⟨(cells_one (ah Q)),T⟩⟩⟩⟩ Q Q Q<|Dv.fg Q T Q dW<|go 1<|WP.block<|ws 2 [1,0] 0 ?_
  refine lq (fun j_ (pa:Int×(List Int)×OV)=>cT.l1 k a0 j_ pa.1 pa.2.1) (0,ta,ga) H [1,19,20] (fun pa=>[(3,eq pa.2.2.1),(21,vI pa.1)]) (fun pa=>[(1,own (bG .u8) pa.2.2.1 pa.2.1)]) ?_
  rintro j_ ⟨xc,xd,va⟩ H
  rcases j_ with _ | ja
  ·
   exact (aV.no H).elim
  try dsimp only at H
  rw [cT.l1] at H
  refine so<|WP.seq<|cf H ?_ ?_ <;> intro H
  ·
   refine WP.exit ?_
   have H:=H.out
   exact jn ((xc,decide (xc<(([a0.aa,a0.ai,a0.bC,a0.ae]:List BA).length:Int)),xd),va) H
  refine WP.skip<|WP.seq<|WP.block<|wr 3 0<|gr H fun gb H=>Dv.iY Q T Q Q dW U9 c9 gb.1 gb.2<|mj Q T Q qt Q<|go 1<|rg 4 4<|go 2<|el H fun tc hac H=>cx 2 [1,0] (cL 262) (oy.c hac (p0_:=va)) nofun fun gc _=>?_
  refine go 1<|rg 2 0<|go 2<|ns 2 [1,0] 0 ?_
  exact bk ja (aw (xc+1),tc,gc) H
 obtain ⟨pc,vb⟩:=qh
 refine wr 5 8<|gl 3 [0]<|el H fun te had H=>cx 2 [1,0] (cL 263) (oB.c had (p0_:=vb)) nofun fun gi _=>?_
 refine go 1<|WP.lf H (fun qi:(Int×Bool×(List Int))×OV=>qi.1) (fun qi=>[(3,eq qi.2.1)]) (fun qi=>[aI ba 52 (ak.enc a0),own (bG .u8) qi.2.1 qi.1.2.2]++F) (fun qi H=>?_) (fun H=>?_)
 ·
  obtain ⟨pe,vd⟩:=qi
  refine sp ?_
  cases H.out; exact et vd 2 [0,1] 1
 refine wr 11 0<|gl 8 [1,1,1,1]<|Dv.lit (bG .i64) ([a0.b8,a0.aM,a0.aS,a0.aY]:List Int) (css:=[[vI a0.b8],[vI a0.aM],[vI a0.aS],[vI a0.aY]]) Q T qZ U3 c3 z3 Q dc dc Q ⟨(cells_one (ah Q)),⟨(cells_one (ah Q)),⟨(cells_one (ah Q)),⟨(cells_one (ah Q)),T⟩⟩⟩⟩ Q Q Q<|Dv.fg Q T Q qZ<|go 1<|WP.block<|ws 2 [1,0] 0 ?_
 refine lq (fun j_ (pg:Int×(List Int)×OV)=>cT.l0 k a0 j_ pg.1 pg.2.1) (0,te,gi) H [41,42] (fun pg=>[(3,eq pg.2.2.1),(43,vI pg.1)]) (fun pg=>[(1,own (bG .u8) pg.2.2.1 pg.2.1)]) ?_
 rintro j_ ⟨xe,xf,ve⟩ H
 rcases j_ with _ | jc
 ·
  exact (aV.no H).elim
 try dsimp only at H
 rw [cT.l0] at H
 refine so<|WP.seq<|cf H ?_ ?_ <;> intro H
 ·
  refine WP.exit ?_
  have H:=H.out
  exact jn ((xe,decide (xe<(([a0.b8,a0.aM,a0.aS,a0.aY]:List Int).length:Int)),xf),ve) H
 refine WP.skip<|WP.seq<|WP.block<|wr 3 0<|gr H fun gj H=>Dv.iY Q T Q Q qZ U3 c3 gj.1 gj.2<|mj Q T Q IC Q<|go 1<|rg 4 4<|go 2<|el H fun tg hae H=>cx 2 [1,0] (cL 261) (cF.c hae (p0_:=ve)) nofun fun gk _=>?_
 refine go 1<|rg 2 0<|go 2<|ns 2 [1,0] 0 ?_
 exact bk jc (aw (xe+1),tg,gk) H
theorem kT.c (h:kT.f k a0 a1=some r):Pt prog 169 [agg (ak.enc a0),agg (ak.enc a1)] (vI r):=by
 refine pf func169 h fun R0 F H=>?_
 refine wr 3 3<|Dv.box Q T Q cA nofun fun ba=>Dv.box Q T Q cA nofun fun bc=>go 1<|WP.seq<|dgo mX [0,1,2,3,4,5,7,6,8,9,10,11,12] [6,8]<|gl 4 [1,0]<|el H fun ta haa H=>cl Q (cL 129) Q (cC.c haa)<|gl 2 [1,0]<|el H fun tc hac H=>Dv.zt (pre:=[]) (F:=[aI bc 52 (ak.enc a1),aI ba 52 (ak.enc a0)]++F) (fun ga:OV=>[own (bG .u8) ga.1 tc,aI bc 52 (ak.enc a1),aI ba 52 (ak.enc a0)]++F) Q T (cL 233) Q (cT.c hac) (mg (L:=[aI bc 52 (ak.enc a1),aI ba 52 (ak.enc a0)]) (F:=F) [0,1] Q Q Q) Q pE (fun ga _=>?_)
 refine el H fun te had H=>cx 3 [0,1,2] (cL 233) (cT.c had) pC fun gb _=>?_
 refine el H fun tg hae H=>px (B:=[own (bG .u8) ga.1 tc,own (bG .u8) gb.1 te]) 4 [1,0,2,3] (cL 232) (Pt.BC _ (kB.c hae) (.cons (su (ab 0 Q)) (.cons (su (ab 1 Q)) .nil)) oY) ?_
 refine Dv.lit (bG .i64) ([ta,tg]:List Int) (css:=[[vI ta],[vI tg]]) Q T qZ U3 c3 z3 Q dc dc Q ⟨(cells_one (ah Q)),⟨(cells_one (ah Q)),T⟩⟩ Q Q Q<|el H fun tj haf H=>cl Q (cL 128) Q (bD.c haf)<|gq 1 ?_
 cases H.out; exact ek 4
theorem jJ.c (h:jJ.f k a0 a1=some r):Pt prog 107 [agg (ak.enc a0),agg (ak.enc a1)] (vB r):=by
 refine pf func107 h fun R0 F H=>?_
 refine wr 3 3<|Dv.box Q T Q cA nofun fun ba=>Dv.box Q T Q cA nofun fun bc=>go 1<|wd mX 12 0<|gl 1 [1]<|el H fun ta haa H=>cl Q (cL 168) Q (p9.c haa)<|gl 1 [0]<|el H fun tc hac H=>cl Q (cL 168) Q (p9.c hac)<|Dv.eqs [.int .i64 ta.aG,.string ta.aa,.string ta.ai,.string ta.ae,.bool ta.ao] [.int .i64 tc.aG,.string tc.aa,.string tc.ai,.string tc.ae,.bool tc.ao] Q T Q Q Q Q eg294 (fun _=>j5 2 dc (fun _=>Kp ta tc))<|gp 1 ?_
 cases cc:decide (ta=tc)
 ·
  have H:=H.cf cc
  refine gq 6 ?_
  cases H.out; exact ek 2
 have H:=H.ct cc
 refine gl 2 [1,0]<|el H fun te had H=>Dv.call Q (gg Q) (cL 169) Q (kT.c had)<|gq 3 ?_
 cases H.out; exact ek 2
theorem cX.c {p0_:OV} (h:cX.f a0 a1 a2=some r):Tr prog 108 [eq p0_.1,vI a1,sl ak.K a2] [own ak.K p0_.1 a0] (γ:=OV) (fun _=>True) (fun g=>eq g.1) (fun g=>[own ak.K g.1 r]):=by
 unfold cX.f at h
 obtain ⟨⟨h0,h1,h2,h3,h4⟩,h5⟩:=(aV.of h).an
 obtain rfl:=aV.out h5
 clear h h5
 obtain ⟨i,rfl⟩:=Int.eq_ofNat_of_zero_le h0
 have hi:i≤a0.length:=om
 obtain ⟨v,hv⟩:=p0_
 obtain ⟨ti,i1,i2,i3,i4⟩:=nv
 refine Tr.body func108 (c:=_) Q ntmps108 (Nat.le_of_ble_eq_true Q) fun R0 F=>WP.seq<|WP.qL [(0,false)] kr<|go 1<|WP.seq<|WP.qL [(0,false),(1,false),(2,false)] kr<|go 2<|Dv.sloa (Kd:=ak.K) (xs:=a0) (v:=v) Q T Q (ab 0 Q) fI iq iT (eO (m:=i) Q) hi<|.fin<|WP.seq<|WP.qL [(0,false),(1,false),(2,false)] kr<|go 1<|Dv.fg Q T Q fI<|go 1<|WP.seq<|WP.seq<|WP.qL [(0,false),(1,false)] kr<|go 2<|WP.cond Q (fun c0=>?_) (fun c0=>?_)
 ·
  exfalso; have:=beq_iff_eq.1 c0; omega
 refine WP.skip<|WP.seq<|WP.qL [(0,false),(1,false),(2,false)] kr<|go 1<|Dv.kG (Kd:=ak.K) (xs:=a0) (v:=v) Q T Q (ab 0 Q) fI<|go 1<|WP.seq<|WP.seq<|WP.qL [(0,false),(1,false),(2,false)] kr<|go 3<|WP.cond Q (fun c1=>?_) (fun c1=>?_)
 ·
  have e1:i=a0.length:=by have:=beq_iff_eq.1 c1; omega
  subst e1
  refine WP.seq<|WP.qL [(0,false),(1,false),(2,true),(3,false)] kr<|go 2<|Dv.Es (Kd:=ak.K) (xs:=a0) (v:=v) (jj:=0) (ys:=a2) (fun v1:OV=>[own ak.K v1.1 (a0++a2)]++F) Q T Q Q Q bS fI (.inr ⟨_,fI⟩) nv Q dc om Q nofun (fun v1=>?_)
  refine gq 1 ?_
  have e2:a0.take (a0.length:Int).toNat++a2++a0.drop (a0.length:Int).toNat=a0++a2:=sM
  rw [e2]
  exact et v1 1 [0] 0
 refine WP.skip ?_
 have hlt:i<a0.length:=by have:¬ ((i:Int)=(a0.length:Int)):=(by simpa using c1); omega
 have hne:a0≠[]:=by intro e; subst e; simp at hlt
 rw [Int.toNat_natCast]
 refine wg (Bx 0 Q hne) fun g hg=>?_
 rcases g with ⟨b,off,c,bT,A,C⟩
 change v = .slice (some ⟨b,off,none⟩) a0.length c∧a0.length≤c∧A.length=off∧off+c*ak.K.sz≤(A++a0.flatMap ak.K.enc++C).length at hg
 obtain ⟨rfl,hc,hA,hlen⟩:=hg
 change WP _ _ _ _ _ _ (aI b bT (A++a0.flatMap ak.K.enc++C)::F)
 have hsz:0<ak.K.sz:=dc
 have ml:∀ {p q:Nat},p≤q→p*ak.K.sz≤q*ak.K.sz:=fun h=>Nat.mul_le_mul_right _ h
 have fl:(A++a0.flatMap ak.K.enc++C).length=off+a0.length*ak.K.sz+C.length:=by rw [List.length_append,List.length_append,bI,hA]
 have fd:((a0.drop i).flatMap ak.K.enc).length=(a0.length-i)*ak.K.sz:=by rw [bI,List.length_drop]
 have fy:(a2.flatMap ak.K.enc).length=a2.length*ak.K.sz:=bI _
 have s1:i*ak.K.sz+a2.length*ak.K.sz+(a0.length-i)*ak.K.sz=(a0.length+a2.length)*ak.K.sz:=by rw [← Nat.add_mul,← Nat.add_mul]; congr 1; omega
 have s2:(i+a2.length)*ak.K.sz=i*ak.K.sz+a2.length*ak.K.sz:=Nat.add_mul ..
 have zl:(a0.take i++a2++a0.drop i).length=a0.length+a2.length:=by simp only [List.length_append,List.length_take,List.length_drop]; omega
 refine WP.seq<|WP.seq<|WP.qL [(0,false),(1,false),(2,false),(3,false),(4,false),(5,false)] kr<|go 2<|nV Q Q Q (nr (a:=a0.length) (b:=a2.length) om)<|go 1<|Dv.capk Q T Q fI<|go 1<|WP.cond Q (fun c2=>?_) (fun c2=>?_)
 ·
  have hg:c<a0.length+a2.length:=by have:=of_decide_eq_true c2; omega
  refine WP.seq<|WP.qL [(0,false),(1,false),(2,false),(3,false),(4,false),(5,false),(6,false),(7,false),(8,true),(9,false)] kr<|go 2<|Dv.wT (o':=off) (m':=i) (c':=c) Q T Q fI iq iT dC (eO (m:=i) Q) (Nat.zero_le _) om (.inr Q) sM sM sM<|go 2<|nV Q Q Q (nr (a:=a0.length) (b:=a2.length) om)<|go 1<|nV Q Q Q (Fv (a:=a0.length+a2.length) (b:=i) om om)<|Dv.apmn (sz:=ak.K.sz) (jj:=0) (k1:=a0.length+a2.length-i) (N:=a0.length+a2.length) (Q:=(a0.take i).flatMap ak.K.enc) Q T Q Q fI U3 i1 i2 i3 i4 Q dc om om hg om h4 Q ?_ (H8 (Kd:=ak.K) hi hA) nofun (fun w hw=>?_)
  ·
   rw [fl]; have:=ml (Nat.le_of_lt hlt); omega
  rcases w with ⟨b2,nc⟩
  replace hw:a0.length+a2.length≤nc:=hw
  refine gq 1 ?_
  generalize hZ:(Builtin.zeroCells (Value.cells _) ((b2,nc).2-i)).toList.map eq=Z
  have zz:Z.length=(nc-i)*ak.K.sz:=by rw [← hZ,List.length_map,Array.length_toList,Builtin.zeroCells,Array.size_map,Array.size_range]; rfl
  have ft:((a0.take i).flatMap ak.K.enc++Z).length=nc*ak.K.sz:=by rw [List.length_append,bI,List.length_take,Nat.min_eq_left hi,zz,← Nat.add_mul]; congr 1; omega
  have s3:=ml hw
  have s4:i*ak.K.sz+(a0.length-i)*ak.K.sz=a0.length*ak.K.sz:=by rw [← Nat.add_mul]; congr 1; omega
  refine WP.seq<|WP.qL [(0,false),(1,false),(2,false),(3,false),(4,true)] kr<|go 2<|Dv.wT (o':=i*ak.K.sz) (m':=a0.length+a2.length-i) (c':=nc-i) Q T Q fI iq iT (eO (m:=i) Q) dC om hw (.inl (Nat.lt_of_lt_of_le om hw)) (Nat.zero_add _) Q Q<|go 1<|Dv.GK (jj:=0) (kk:=a2.length) Q T Q Q fI iq iT Ao om Q ?_ nofun ?_
  ·
   rw [ft,fy]; omega
  refine .fin ?_
  have l1:(nG ((a0.take i).flatMap ak.K.enc++Z) (i*ak.K.sz) (a2.flatMap ak.K.enc)).length=nc*ak.K.sz:=by rw [tQ (by rw [ft,fy]; omega),ft]
  refine WP.seq<|WP.Iv mX [(0,false),(1,false),(2,false),(3,false),(4,false),(5,false),(6,false),(7,false),(8,true)] kr<|go 3<|nV Q Q Q (nr (a:=i) (b:=a2.length) om)<|Dv.wT (o':=(i+a2.length)*ak.K.sz) (m':=a0.length-i) (c':=nc-(i+a2.length)) Q T Q fI iq iT (eO (m:=i+a2.length) Q) dC om hw (.inl (Nat.lt_of_lt_of_le om hw)) (Nat.zero_add _) om Q<|go 2<|Dv.wT (o':=off+i*ak.K.sz) (m':=a0.length-i) (c':=c-i) Q T Q fI iq iT (eO (m:=i) Q) dC hi hc (.inl om) Q Q Q<|Dv.GK (jj:=0) (kk:=a0.length-i) Q T Q Q fI iq iT (Ax (ab 1 Q) hi hA) (Nat.min_self _) Q ?_ (fun _=>fF kr) ?_
  ·
   rw [l1,fd]; omega
  refine .fin ?_
  have l2:(nG (nG ((a0.take i).flatMap ak.K.enc++Z) (i*ak.K.sz) (a2.flatMap ak.K.enc)) ((i+a2.length)*ak.K.sz) ((a0.drop i).flatMap ak.K.enc)).length=nc*ak.K.sz:=by rw [tQ (by rw [l1,fd]; omega),l1]
  refine WP.seq<|WP.qL [(0,false),(1,false)] kr<|go 2<|wg (ur (Kd:=ak.K) (off:=0) (n:=a0.length+a2.length) (c:=nc) (zs:=a0.take i++a2++a0.drop i) 0 Q zl hw (by rw [l2]; omega) (HO hi)) fun _ _=>?_
  exact et (⟨.slice (some ⟨b2,0,none⟩) (a0.length+a2.length) nc,Q⟩:OV) 2 [1,0] 1
 have hg:a0.length+a2.length≤c:=by have:=of_decide_eq_false c2; omega
 refine WP.skip ?_
 have s3:=ml hg
 refine WP.seq<|WP.qL [(0,false),(1,false),(2,false),(3,false),(4,false),(5,false)] kr<|go 3<|nV Q Q Q (nr (a:=a0.length) (b:=a2.length) om)<|Dv.wT (o':=off) (m':=a0.length+a2.length) (c':=c) Q T Q fI iq iT dC (eO (m:=a0.length+a2.length) Q) (Nat.zero_le _) hg (.inr Q) sM sM sM<|go 1<|WP.seq<|WP.seq<|WP.qL [(0,false),(1,false),(2,false),(3,false),(4,false),(5,false),(6,false),(7,false)] kr<|go 4<|nV Q Q Q (nr (a:=i) (b:=a2.length) om)<|Dv.wT (o':=off+(i+a2.length)*ak.K.sz) (m':=a0.length-i) (c':=c-(i+a2.length)) Q T Q fI iq iT (eO (m:=i+a2.length) Q) dC om hg (.inl (Nat.lt_of_lt_of_le om hg)) Q om Q<|Dv.ovl Q T Q Q (ab 0 Q) h2 hsz func170 kr Q xf170 xg170 Q fI iq<|go 1<|WP.cond Q (fun c3=>?_) (fun c3=>by cases c3)
 refine WP.seq<|WP.Iv mX [(0,false),(1,false),(2,false),(3,false),(4,false),(5,false),(6,false),(7,false),(8,true)] kr<|go 3<|nV Q Q Q (nr (a:=i) (b:=a2.length) om)<|Dv.wT (o':=off+(i+a2.length)*ak.K.sz) (m':=a0.length-i) (c':=c-(i+a2.length)) Q T Q fI iq iT (eO (m:=i+a2.length) Q) dC om hg (.inl (Nat.lt_of_lt_of_le om hg)) Q om Q<|go 2<|Dv.wT (o':=off+i*ak.K.sz) (m':=a0.length+a2.length-i) (c':=c-i) Q T Q fI iq iT (eO (m:=i) Q) dC om hg (.inl om) Q Q Q<|Dv.GK (jj:=0) (kk:=a0.length-i) Q T Q Q fI iq iT (Ax (ab 0 Q) hi hA) om Q ?_ (fun _=>fF kr) ?_
 ·
  rw [fd]; omega
 refine .fin ?_
 have l1:(nG (A++a0.flatMap ak.K.enc++C) (off+(i+a2.length)*ak.K.sz) ((a0.drop i).flatMap ak.K.enc)).length=(A++a0.flatMap ak.K.enc++C).length:=tQ (by rw [fd]; omega)
 refine WP.seq<|WP.qL [(0,false),(1,false),(2,false),(3,false),(4,true)] kr<|go 2<|Dv.wT (o':=off+i*ak.K.sz) (m':=a0.length+a2.length-i) (c':=c-i) Q T Q fI iq iT (eO (m:=i) Q) dC om hg (.inl om) Q Q Q<|go 1<|Dv.GK (jj:=0) (kk:=a2.length) Q T Q Q fI iq iT Ao om Q ?_ nofun ?_
 ·
  rw [l1,fy]; omega
 refine .fin<|WP.seq<|WP.qL [(0,false),(1,false)] kr<|go 2<|wg (ur (Kd:=ak.K) (off:=off) (n:=a0.length+a2.length) (c:=c) (zs:=a0.take i++a2++a0.drop i) 0 Q zl hg (by rw [tQ (by rw [l1,fy]; omega),l1]; exact hlen) (H7 hi hA om)) fun _ _=>?_
 exact et (⟨.slice (some ⟨b,off,none⟩) (a0.length+a2.length) c,Q⟩:OV) 1 [0] 0
theorem dx.c {p0_:OV} (h:dx.f a0 a1 a2=some r):Tr prog 172 [eq p0_.1,vI a1,agg (di.enc a2)] [aN.O p0_ a0] (γ:=Unit) (fun _=>True) (fun g=>kN []) (fun g=>[aN.O p0_ r]):=by
 refine tf func172 h fun R0 F H=>?_
 refine wr 1 1<|Dv.box Q T Q cA nofun fun ba=>.fin<|WP.seq<|wg (aN.iK 1 Q) fun ga haa=>?_
 refine dg mX 8 128<|go 1<|Dv.bW haa Q T Q<|fp haa Q T Q hM<|gl 3 [0,3]<|gr H fun gb H=>?_
 have hac:a1.toNat<a0.fl.length:=bE gb
 refine Dv.kA Q T Q (ab 1 Q) Q oA np nF gb.1 gb.2<|Dv.HX (j:=a1.toNat) (f:=0) (jj:=1) a2 Q T Q Q (aZ (di.K.one _)) np nF Q Q hac (Nat.le_of_ble_eq_true Q) Q (fun _=>fF kr)<|.fin<|dg mX 8 128<|go 1<|Dv.bW haa Q T Q<|fp haa Q T Q tX<|gl 4 [0,3]<|Dv.mup (jj:=2) a1 Q T Q Q Q Q tB (dN U9) (fun _=>fF kr)<|.fin<|ng (aN.shut (p:=p0_) (m:=(⟨a0.fl.set a1.toNat a2,mput a0.iH a2.bY a1⟩:aN)) (ga.1,ga.2.1,ga.2.2) haa (pm 4 [0,1,2,3])) fun _ _=>?_
 obtain rfl:=aV.out H
 exact re Q () 2 [1,0] 1 .nil
theorem heap_ahead.c (h:heap_ahead.f k a0 a1=some r):Pt prog 235 [agg (di.enc a0),agg (di.enc a1)] (vI r):=by
 refine pf func235 h fun R0 F H=>?_
 refine wr 3 3<|Dv.box Q T Q cA nofun fun ba=>Dv.box Q T Q cA nofun fun bc=>go 1<|wd mX 13 0<|gl 4 [1,0]<|el H fun ta haa H=>cl Q (cL 129) Q (cC.c haa)<|gl 4 [1,0]<|el H fun tc hac H=>cl Q (cL 65) Q (aD.c hac)<|Dv.lit (bG .i64) ([ta,tc]:List Int) (css:=[[vI ta],[vI tc]]) Q T qZ U3 c3 z3 Q dc dc Q ⟨(cells_one (ah Q)),⟨(cells_one (ah Q)),T⟩⟩ Q Q Q<|el H fun te had H=>cl Q (cL 128) Q (bD.c had)<|gq 1 ?_
 cases H.out; exact ek 2
theorem heap_Heap_down.c {p0_:OV} (h:heap_Heap_down.f k a0 a1=some r):Tr prog 173 [eq p0_.1,vI a1] [aN.O p0_ a0] (γ:=Unit) (fun _=>True) (fun g=>kN []) (fun g=>[aN.O p0_ r]):=by
 refine tf func173 h fun R0 F H=>?_
 refine wr 9 384<|go 1<|Dv.pZ aN.nn Q T Q (ab 0 Q)<|vg (aN.iK 0 Q) fun ga haa=>?_
 refine fp haa Q T Q hM<|gl 2 [0]<|gr H fun gb H=>?_
 have hac:a1.toNat<a0.fl.length:=bE gb
 refine Dv.kA Q T Q (ab 1 Q) Q oA np nF gb.1 gb.2<|Dv.pv (j:=a1.toNat) (f:=0) Q T Q (ab 1 Q) hac np Q nF (Nat.le_of_ble_eq_true Q)<|al Q T Gl nofun fun ba=>sy 0 ?_
 refine .fin<|WP.lf H id (fun pa=>[(0,eq p0_.1),(1,vI pa.1),(4,eP ba)]) (fun pa=>[aI ba 299 (di.enc (a0.fl.getD a1.toNat default)),aN.O p0_ pa.2.2.2.2]++F) (fun pa H=>?_) (fun H=>?_)
 ·
  refine rg 4 8<|gl 3 [0]<|el H fun ta had H=>cx 2 [1,0] (cL 172) (dx.c had (p0_:=p0_)) nofun fun _ _=>?_
  refine .fin ?_
  obtain rfl:=aV.out H
  exact re Q () 2 [1,0] 1 .nil
 refine WP.block<|wg (aN.shut (p:=p0_) (m:=a0) (ga.1,ga.2.1,ga.2.2) haa (pm 4 [1,2,3,0])) fun _ _=>?_
 refine ws 2 [1,0] 0 ?_
 refine lq (fun j_ (pc:Int×aN)=>heap_Heap_down.l0 k a0 a1 j_ pc.1 pc.2) (a1,a0) H [0,4] (fun pc=>[(1,vI pc.1)]) (fun pc=>[(1,aN.O p0_ pc.2)]) ?_
 rintro j_ ⟨xc,xd⟩ H
 rcases j_ with _ | ja
 ·
  exact (aV.no H).elim
 try dsimp only at H
 rw [heap_Heap_down.l0] at H
 refine WP.block<|so<|WP.lf H id (fun pe=>[(0,eq p0_.1),(1,vI xc),(4,eP ba),(5,vI pe.1)]) (fun pe=>[aI ba 299 (di.enc (a0.fl.getD a1.toNat default)),aN.O p0_ xd]++F) (fun pe H=>?_) (fun H=>?_)
 ·
  refine WP.seq<|WP.seq<|wg (aN.iK 1 Q) fun gc hae=>?_
  refine dg mX 19 0<|go 2<|Dv.bW hae Q T Q<|fp hae Q T Q hM<|gl 1 [0]<|Dv.kG Q T Q (ab 1 Q) oA<|gp 2 ?_
  cases cc:decide ((xd.fl.length:Int)≤pe.1)
  rotate_left
  ·
   have H:=H.ct cc
   refine go 11<|WP.cond Q (fun _=>?_) nofun
   refine WP.exit ?_
   have H:=H.out
   refine ng (aN.shut (p:=p0_) (m:=xd) (gc.1,gc.2.1,gc.2.2) hae (pm 4 [0,1,2,3])) fun _ _=>?_
   refine ns 2 [1,0] 0 ?_
   exact jn (xc,pe.1,pe.2,true,xd) H
  have H:=H.cf cc
  refine gl 2 [3]<|Dv.bW hae Q (gg Q) Q<|fp hae Q (gg Q) Q hM<|gl 2 [0]<|gr H fun gi H=>?_
  have haf:pe.1.toNat<xd.fl.length:=bE gi
  refine Dv.kA Q (gg Q) Q (ab 1 Q) Q oA np nF gi.1 gi.2<|Dv.pv (j:=pe.1.toNat) (f:=0) Q (gg Q) Q (ab 1 Q) haf np Q nF (Nat.le_of_ble_eq_true Q)<|el H fun tc hag H=>Dv.call Q (gg Q) (cL 235) Q (heap_ahead.c hag)<|go 2<|ce H ?_ ?_ <;> intro H
  ·
   refine WP.exit ?_
   have H:=H.out
   refine ng (aN.shut (p:=p0_) (m:=xd) (gc.1,gc.2.1,gc.2.2) hae (pm 4 [0,1,2,3])) fun _ _=>?_
   refine ns 2 [1,0] 0 ?_
   exact jn (xc,pe.1,pe.2,decide (tc<0),xd) H
  refine WP.skip<|wr 10 512<|go 3<|Dv.bW hae Q T Q<|fp hae Q T Q hM<|gl 2 [0]<|gr H fun gj H=>?_
  have hah:pe.1.toNat<xd.fl.length:=bE gj
  refine Dv.kA Q T Q (ab 1 Q) Q oA np nF gj.1 gj.2<|Dv.pv (j:=pe.1.toNat) (f:=0) Q T Q (ab 1 Q) hah np Q nF (Nat.le_of_ble_eq_true Q)<|vg (aN.shut (p:=p0_) (m:=xd) (gc.1,gc.2.1,gc.2.2) hae (pm 4 [0,1,2,3])) fun _ _=>?_
  refine el H fun te hai H=>cx 2 [0,1] (cL 172) (dx.c hai (p0_:=p0_)) nofun fun _ _=>?_
  refine .fin<|rg 2 0<|go 2<|ns 2 [1,0] 0 ?_
  exact bk ja (pe.1,te) H
 refine WP.seq<|wg (aN.iK 1 Q) fun gk haj=>?_
 refine dg mX 27 0<|go 3<|Dv.bW haj Q T Q<|fp haj Q T Q hM<|gl 1 [0]<|Dv.kG Q T Q (ab 1 Q) oA<|gp 2 ?_
 cases cg:decide ((aw ((aw ((aw (2*xc))+1))+1))<(xd.fl.length:Int))
 ·
  have H:=H.cf cg
  refine go 18<|WP.cond Q nofun (fun _=>?_)
  refine WP.skip ?_
  have H:=H.out
  refine ng (aN.shut (p:=p0_) (m:=xd) (gk.1,gk.2.1,gk.2.2) haj (pm 4 [0,1,2,3])) fun _ _=>?_
  refine ns 2 [1,0] 0 ?_
  exact jn (aw ((aw (2*xc))+1),false) H
 have H:=H.ct cg
 refine go 1<|Dv.bW haj Q (gg Q) Q<|fp haj Q (gg Q) Q hM<|gl 3 [0]<|gr H fun gm H=>?_
 have hak:(aw ((aw ((aw (2*xc))+1))+1)).toNat<xd.fl.length:=bE gm
 refine Dv.kA Q (gg Q) Q (ab 1 Q) Q oA np nF gm.1 gm.2<|Dv.pv (j:=((aw ((aw ((aw (2*xc))+1))+1)).toNat)) (f:=0) Q (gg Q) Q (ab 1 Q) hak np Q nF (Nat.le_of_ble_eq_true Q)<|go 1<|Dv.bW haj Q (gg Q) Q<|fp haj Q (gg Q) Q hM<|gl 2 [0]<|gr H fun gn H=>?_
 have ham:(aw ((aw (2*xc))+1)).toNat<xd.fl.length:=bE gn
 refine Dv.kA Q (gg Q) Q (ab 1 Q) Q oA np nF gn.1 gn.2<|Dv.pv (j:=((aw ((aw (2*xc))+1)).toNat)) (f:=0) Q (gg Q) Q (ab 1 Q) ham np Q nF (Nat.le_of_ble_eq_true Q)<|el H fun tg han H=>Dv.call Q (gg Q) (cL 235) Q (heap_ahead.c han)<|go 2<|cf H ?_ ?_ <;> intro H
 ·
  refine WP.skip ?_
  have H:=H.out
  refine ng (aN.shut (p:=p0_) (m:=xd) (gk.1,gk.2.1,gk.2.2) haj (pm 4 [0,1,2,3])) fun _ _=>?_
  refine ns 2 [1,0] 0 ?_
  exact jn (aw ((aw (2*xc))+1),decide (tg<0)) H
 refine rg 3 0<|gq 3 ?_
 have H:=H.out
 refine ng (aN.shut (p:=p0_) (m:=xd) (gk.1,gk.2.1,gk.2.2) haj (pm 4 [0,1,2,3])) fun _ _=>?_
 refine ns 2 [1,0] 0 ?_
 exact jn (aw ((aw ((aw (2*xc))+1))+1),decide (tg<0)) H
theorem cY.c {p0_:OV} (h:cY.f k a0 a1=some r):Tr prog 174 [eq p0_.1,vI a1] [aN.O p0_ a0] (γ:=Unit) (fun _=>True) (fun g=>kN []) (fun g=>[aN.O p0_ r]):=by
 refine tf func174 h fun R0 F H=>?_
 refine wr 9 384<|go 1<|Dv.pZ aN.nn Q T Q (ab 0 Q)<|vg (aN.iK 0 Q) fun ga haa=>?_
 refine fp haa Q T Q hM<|gl 2 [0]<|gr H fun gb H=>?_
 have hac:a1.toNat<a0.fl.length:=bE gb
 refine Dv.kA Q T Q (ab 1 Q) Q oA np nF gb.1 gb.2<|Dv.pv (j:=a1.toNat) (f:=0) Q T Q (ab 1 Q) hac np Q nF (Nat.le_of_ble_eq_true Q)<|al Q T Gl nofun fun ba=>sy 0 ?_
 refine .fin<|WP.lf H id (fun pa=>[(0,eq p0_.1),(1,vI pa.1),(4,eP ba)]) (fun pa=>[aI ba 299 (di.enc (a0.fl.getD a1.toNat default)),aN.O p0_ pa.2.2]++F) (fun pa H=>?_) (fun H=>?_)
 ·
  refine rg 4 8<|gl 3 [0]<|el H fun ta had H=>cx 2 [1,0] (cL 172) (dx.c had (p0_:=p0_)) nofun fun _ _=>?_
  refine .fin ?_
  obtain rfl:=aV.out H
  exact re Q () 2 [1,0] 1 .nil
 refine WP.block<|wg (aN.shut (p:=p0_) (m:=a0) (ga.1,ga.2.1,ga.2.2) haa (pm 4 [1,2,3,0])) fun _ _=>?_
 refine ws 2 [1,0] 0 ?_
 refine lq (fun j_ (pc:Int×aN)=>cY.l0 k a0 a1 j_ pc.1 pc.2) (a1,a0) H [0,4] (fun pc=>[(1,vI pc.1)]) (fun pc=>[(1,aN.O p0_ pc.2)]) ?_
 rintro j_ ⟨xc,xd⟩ H
 rcases j_ with _ | ja
 ·
  exact (aV.no H).elim
 try dsimp only at H
 rw [cY.l0] at H
 refine WP.seq<|WP.seq<|wg (aN.iK 1 Q) fun gc hae=>?_
 refine dg mX 16 0<|gp 3 ?_
 cases cc:decide (0<xc)
 ·
  have H:=H.cf cc
  refine go 13<|WP.cond Q nofun (fun _=>?_)
  refine WP.exit ?_
  have H:=H.out
  refine ng (aN.shut (p:=p0_) (m:=xd) (gc.1,gc.2.1,gc.2.2) hae (pm 4 [0,1,2,3])) fun _ _=>?_
  refine ns 2 [1,0] 0 ?_
  exact jn (xc,false,xd) H
 have H:=H.ct cc
 refine gl 2 [3]<|Dv.bW hae Q (gg Q) Q<|fp hae Q (gg Q) Q hM<|gl 3 [0]<|bng Q Q Q Q (nO dc)<|gr H fun gi H=>?_
 have haf:(aw ((aw (xc-1)).tdiv 2)).toNat<xd.fl.length:=bE gi
 refine Dv.kA Q (gg Q) Q (ab 1 Q) Q oA np nF gi.1 gi.2<|Dv.pv (j:=((aw ((aw (xc-1)).tdiv 2)).toNat)) (f:=0) Q (gg Q) Q (ab 1 Q) haf np Q nF (Nat.le_of_ble_eq_true Q)<|el H fun tc hag H=>Dv.call Q (gg Q) (cL 235) Q (heap_ahead.c hag)<|go 2<|cf H ?_ ?_ <;> intro H
 ·
  refine WP.exit ?_
  have H:=H.out
  refine ng (aN.shut (p:=p0_) (m:=xd) (gc.1,gc.2.1,gc.2.2) hae (pm 4 [0,1,2,3])) fun _ _=>?_
  refine ns 2 [1,0] 0 ?_
  exact jn (xc,decide (tc<0),xd) H
 refine WP.skip<|WP.block<|wr 12 2048<|go 3<|Dv.bW hae Q T Q<|fp hae Q T Q hM<|gl 3 [0]<|nV Q Q Q (nO dc)<|gr H fun gj H=>?_
 have hah:(aw ((aw (xc-1)).tdiv 2)).toNat<xd.fl.length:=bE gj
 refine Dv.kA Q T Q (ab 1 Q) Q oA np nF gj.1 gj.2<|Dv.pv (j:=((aw ((aw (xc-1)).tdiv 2)).toNat)) (f:=0) Q T Q (ab 1 Q) hah np Q nF (Nat.le_of_ble_eq_true Q)<|vg (aN.shut (p:=p0_) (m:=xd) (gc.1,gc.2.1,gc.2.2) hae (pm 4 [0,1,2,3])) fun _ _=>?_
 refine el H fun te hai H=>cx 2 [0,1] (cL 172) (dx.c hai (p0_:=p0_)) nofun fun _ _=>?_
 refine .fin<|rg 4 0<|go 2<|nV Q Q Q (nO dc)<|go 1<|ns 2 [1,0] 0 ?_
 exact bk ja (aw ((aw (xc-1)).tdiv 2),te) H
theorem du.c {p0_:OV} (h:du.f k a0 a1=some r):Tr prog 109 [eq p0_.1,vS a1] [aN.O p0_ a0] (γ:=Unit) (fun _=>True) (fun g=>vB r.1) (fun g=>[aN.O p0_ r.2]):=by
 refine tf func109 h fun R0 F H=>?_
 refine so<|wr 11 0<|go 1<|Dv.pZ aN.nn Q T Q (ab 0 Q)<|vg (aN.iK 0 Q) fun ga haa=>?_
 refine fp haa Q T Q tX<|gl 2 [0]<|Dv.mlk 0 Q T Q (ab 2 Q) Q tB (dN U9) z3 (fun _=>Q)<|go 1<|ei Q T Q Q<|ei Q T Q Q<|go 2<|WP.seq<|so<|ce H ?_ ?_ <;> intro H
 ·
  refine so<|wg (aN.shut (p:=p0_) (m:=a0) (ga.1,ga.2.1,ga.2.2) haa (pm 3 [0,1,2])) fun _ _=>?_
  cases H.out; exact et () 1 [0] 0
 refine WP.skip<|wr 6 32<|go 1<|Dv.bW haa Q T Q<|fp haa Q T Q tX<|gl 2 [0]<|Dv.mdl (jj:=2) Q T Q Q Q tB (dN U9) nofun<|.fin<|wr 7 0<|go 1<|Dv.bW haa Q T Q<|fp haa Q T Q hM<|gl 1 [0]<|Dv.kG Q T Q (ab 1 Q) oA<|go 2<|wr 9 384<|go 1<|Dv.bW haa Q T Q<|fp haa Q T Q hM<|gl 2 [0]<|gr H fun gb H=>?_
 have hac:(aw ((a0.fl.length:Int)-1)).toNat<a0.fl.length:=bE gb
 refine Dv.kA Q T Q (ab 1 Q) Q oA np nF gb.1 gb.2<|Dv.pv (j:=((aw ((a0.fl.length:Int)-1)).toNat)) (f:=0) Q T Q (ab 1 Q) hac np Q nF (Nat.le_of_ble_eq_true Q)<|al Q T Gl nofun fun ba=>sy 0 ?_
 refine .fin<|wr 10 576<|go 2<|Dv.bW haa Q T Q<|fp haa Q T Q hM<|gl 2 [1]<|gr H fun gc H=>Dv.slo (jj:=2) Q T Q Q oA np nF dC (eV Q gc.1) (.inl Q) gc.2.1 gc.2.2 nofun (fun va=>?_)
 refine Dv.bW haa Q T Q<|fp haa Q T Q hM<|sx 1 Q T Q Q (cells_one bK) I8 Q Q Q nofun ?_
 refine .fin<|WP.seq<|so<|cf H ?_ ?_ <;> intro H
 ·
  refine WP.skip<|so<|wg (aN.shut (p:=p0_) (m:=(⟨(a0.fl.take ((aw ((a0.fl.length:Int)-1)).toNat)).drop 0,lL a0.iH a1⟩:aN)) (ga.1,va,ga.2.2) haa (pm 4 [1,2,3,0])) fun _ _=>?_
  cases H.out; exact et () 2 [1,0] 1
 refine wr 4 8<|gl 3 [0]<|vg (aN.shut (p:=p0_) (m:=(⟨(a0.fl.take ((aw ((a0.fl.length:Int)-1)).toNat)).drop 0,lL a0.iH a1⟩:aN)) (ga.1,va,ga.2.2) haa (pm 4 [1,2,3,0])) fun _ _=>?_
 refine el H fun ta had H=>cx 2 [0,1] (cL 172) (dx.c had (p0_:=p0_)) nofun fun _ _=>?_
 refine .fin<|wr 3 4<|go 2<|el H fun tc hae H=>cx 2 [0,1] (cL 173) (heap_Heap_down.c hae (p0_:=p0_)) nofun fun _ _=>?_
 refine .fin<|wg (aN.iK 0 Q) fun gi haf=>?_
 refine dg mX 9 256<|go 2<|Dv.bW haf Q T Q<|fp haf Q T Q tX<|gl 3 [0,3]<|Dv.F6 0 Q T Q (ab 2 Q) Q tB (dN U9) z3 (fun _=>Q)<|el H fun te hag H=>cx 4 [0,1,2,3] (cL 174) (Tr.pre (pre':=[aI gi.1 261 [eq gi.2.1.1,eq gi.2.2.1],own di.K gi.2.1.1 tc.fl,mp Value.string (fun x:Int=>vI x) gi.2.2.1 tc.iH]) (cY.c hag (p0_:=p0_)) (fun F R w=>aN.shut (p:=p0_) (m:=tc) (r:=F) (gi.1,gi.2.1,gi.2.2) haf (List.Perm.refl _) R w)) pC fun _ _=>?_
 refine .fin<|sp ?_
 cases H.out; exact et () 2 [1,0] 1
theorem eS.c {p0_:OV} (h:eS.f k a0 a1 a2=some r):Tr prog 110 [eq p0_.1,vI a1,vS a2] [aN.O p0_ a0] (γ:=Unit) (fun _=>True) (fun g=>kN []) (fun g=>[aN.O p0_ r]):=by
 refine tf func110 h fun R0 F H=>?_
 refine wr 3 4<|go 2<|el H fun ta haa H=>cx 1 [0] (cL 109) (du.c haa (p0_:=p0_)) nofun fun _ _=>?_
 refine .fin<|wr 13 4608<|go 2<|Dv.pZ aN.nn Q T Q (ab 0 Q)<|vg (aN.iK 0 Q) fun ga hac=>?_
 refine fp hac Q T Q hM<|gl 3 [0]<|Dv.lp (qs:=[vI a1,vS a2]) (css:=[[vI a1],[vS a2]]) Q T np pl299 Kh Q ⟨(cells_one (ah Q)),⟨(cells_one (ah Q)),T⟩⟩ Q Q<|Dv.lit di.K ([(⟨a1,a2⟩:di)]:List di) (css:=[[vI a1,vS a2]]) Q T oA np nF Kh Q dc dc Q ⟨(aZ (aj (ah Q) (aj (ah Q) bX))),T⟩ Q Q Q<|gr H fun gb H=>ap di.K 1 ([(⟨a1,a2⟩:di)]:List di) bS oA (.inr ⟨_,oA⟩) JJ gb nofun fun va=>?_
 refine Dv.bW hac Q T Q<|fp hac Q T Q hM<|sx 0 Q T Q Q (cells_one bK) I8 Q Q Q nofun ?_
 refine .fin<|rg 8 128<|go 2<|Dv.bW hac Q T Q<|fp hac Q T Q hM<|gl 1 [0]<|Dv.kG Q T Q (ab 1 Q) oA<|go 1<|vg (aN.shut (p:=p0_) (m:=(⟨ta.2.fl++([(⟨a1,a2⟩:di)]:List di),ta.2.iH⟩:aN)) (ga.1,va,ga.2.2) hac (pm 3 [0,1,2])) fun _ _=>?_
 refine el H fun tc had H=>cx 1 [0] (cL 174) (cY.c had (p0_:=p0_)) nofun fun _ _=>?_
 refine .fin ?_
 obtain rfl:=aV.out H
 exact re Q () 1 [0] 0 .nil
theorem jf.c (h:jf.f a0=some r):Pt prog 111 [agg (ak.enc a0)] (vI r):=by
 refine pf func111 h fun R0 F H=>?_
 refine wr 2 1<|Dv.box Q T Q cA nofun fun ba=>go 1<|spj [0,0] ?_
 cases H.out; exact ek 1
theorem fx.c {p0_:OV} (h:fx.f k a0 a1=some r):Tr prog 43 [eq p0_.1,agg (ak.enc a1)] [bZ.O p0_ a0] (γ:=Unit) (fun _=>True) (fun g=>kN [vB r.1,vI r.2.1]) (fun g=>[bZ.O p0_ r.2.2]):=by
 refine tf func43 h fun R0 F H=>?_
 refine wr 3 1<|Dv.box Q T Q cA nofun fun ba=>go 2<|WP.seq<|wr 8 0<|kK 4 [0] ?_
 cases cc:(a1.aG != 2)
 rotate_left
 ·
  have H:=H.ct cc
  refine go 4<|WP.cond Q (fun _=>?_) nofun
  refine sp ?_
  cases H.out; exact et () 2 [0,1] 1
 have H:=H.cf cc
 refine gl 1 [0]<|el H fun ta haa H=>Dv.call Q (gg Q) (cL 105) Q (me.c haa)<|go 2<|ce H ?_ ?_ <;> intro H
 ·
  refine sp ?_
  cases H.out; exact et () 2 [0,1] 1
 refine WP.skip<|wr 8 0<|gl 2 [0]<|vg (bZ.iK 1 Q) fun ga hac=>?_
 refine el H fun tc had H=>px 4 [0,1,2,3] (cL 106) (Tr.jK (dP.c had (b0_:=ga.1) (v0_0:=ga.2.1) (v0_1:=ga.2.2)) (.cons (iD hac) (.cons cM .nil))) ?_
 refine go 1<|ei Q T Q Q<|ei Q T Q Q<|go 2<|WP.xS H id (fun pa=>[(0,eq p0_.1),(3,eP ba)]) (fun pa=>[aI ba 52 (ak.enc a1),bZ.O p0_ pa.2.2.2]++F) (fun pa H=>?_) (fun H=>?_)
 ·
  refine wr 7 0<|gl 2 [0]<|gr H fun gb H=>nV Q Q Q (iv gb)<|gl 2 [0]<|gr H fun gc H=>nV Q Q Q (iv gc)<|go 1<|wr 6 32<|go 1<|Dv.pZ bZ.nn Q T Q (ab 1 Q)<|vg (bZ.iK 1 Q) fun gi hae=>?_
  refine fp hae Q T Q B7<|gl 2 [0]<|el H fun te haf H=>cx 4 [2,0,1,3] (cL 109) (du.c haf (p0_:=gi.2.2)) nofun fun _ _=>?_
  refine .fin<|WP.seq<|r9 [3]<|cf H ?_ ?_ <;> intro H
  ·
   refine WP.skip<|so<|wg (bZ.shut (p:=p0_) (m:=(⟨pa.2.2.2.fl,te.2⟩:bZ)) (gi.1,gi.2.1,gi.2.2) hae (pm 4 [1,2,0,3])) fun _ _=>?_
   cases H.out; exact et () 2 [1,0] 1
  refine dg mX 8 128<|go 1<|Dv.bW hae Q T Q<|fp hae Q T Q B7<|gl 2 [1,3]<|el H fun tg hag H=>cl Q (cL 111) Q (jf.c hag)<|go 1<|el H fun tj hah H=>cx 4 [0,1,2,3] (cL 110) (eS.c hah (p0_:=gi.2.2)) pC fun _ _=>?_
  refine .fin<|so<|wg (bZ.shut (p:=p0_) (m:=(⟨pa.2.2.2.fl,tj⟩:bZ)) (gi.1,gi.2.1,gi.2.2) hae (pm 4 [1,2,0,3])) fun _ _=>?_
  cases H.out; exact et () 2 [1,0] 1
 refine WP.block<|wd mX 25 0<|gp 2 ?_
 cases cg:tc.2
 ·
  have H:=H.cf cg
  refine go 23<|WP.cond Q nofun (fun _=>?_)
  refine so<|WP.cond Q nofun (fun _=>?_)
  refine dg mX 12 2304<|go 2<|Dv.bW hac Q T Q<|fp hac Q T Q rB<|gl 3 [0,3]<|Dv.lit ak.K ([a1]:List ak) (css:=[ak.enc a1]) Q T fI iq iT uZ Q dc dc Q ⟨(aZ (ak.K.one _)),T⟩ Q Q Q<|el H fun tm hai H=>Dv.zt (pre:=[own ak.K ga.2.1.1 a0.fl]) (F:=[aI ga.1 190 [eq ga.2.1.1,eq ga.2.2.1],aN.O ga.2.2 a0.gL,aI ba 52 (ak.enc a1)]++F) (fun gj:OV=>[own ak.K gj.1 tm,aI ga.1 190 [eq ga.2.1.1,eq ga.2.2.1],aN.O ga.2.2 a0.gL,aI ba 52 (ak.enc a1)]++F) Q T (cL 108) Q (cX.c hai (p0_:=ga.2.1)) (mg (L:=[aI ga.1 190 [eq ga.2.1.1,eq ga.2.2.1],own ak.K ga.2.1.1 a0.fl,aN.O ga.2.2 a0.gL,aI ba 52 (ak.enc a1)]) (F:=F) [1,0,2,3] Q Q Q) Q pE (fun gj _=>?_)
  refine Dv.bW hac Q T Q<|fp hac Q T Q rB<|sx 1 Q T Q Q (cells_one bK) rS Q Q Q pB ?_
  refine .fin ?_
  have H:=H.out
  refine ng (bZ.shut (p:=p0_) (m:=(⟨tm,a0.gL⟩:bZ)) (ga.1,gj,ga.2.2) hac (pm 4 [1,0,2,3])) fun _ _=>?_
  refine ns 2 [1,0] 0 ?_
  exact jn (false,false,false,(⟨tm,a0.gL⟩:bZ)) H
 have H:=H.ct cg
 refine go 1<|Dv.bW hac Q (gg Q) Q<|fp hac Q (gg Q) Q rB<|gl 2 [0]<|gr H fun gk H=>?_
 have haj:tc.1.toNat<a0.fl.length:=bE gk
 refine Dv.kA Q (gg Q) Q (ab 1 Q) Q fI iq iT gk.1 gk.2<|Dv.pv (j:=tc.1.toNat) (f:=0) Q (gg Q) Q (ab 1 Q) haj iq Q iT (Nat.le_of_ble_eq_true Q)<|gl 1 [3]<|Dv.eqs [.int .i64 ((a0.fl.getD tc.1.toNat default).aG),.string ((a0.fl.getD tc.1.toNat default).aa),.string ((a0.fl.getD tc.1.toNat default).ai),.string ((a0.fl.getD tc.1.toNat default).bC),.string ((a0.fl.getD tc.1.toNat default).ae),.bool ((a0.fl.getD tc.1.toNat default).ao),.bool ((a0.fl.getD tc.1.toNat default).jS),.int .i64 ((a0.fl.getD tc.1.toNat default).b8),.int .i64 ((a0.fl.getD tc.1.toNat default).aM),.int .i64 ((a0.fl.getD tc.1.toNat default).aS),.int .i64 ((a0.fl.getD tc.1.toNat default).aY)] [.int .i64 a1.aG,.string a1.aa,.string a1.ai,.string a1.bC,.string a1.ae,.bool a1.ao,.bool a1.jS,.int .i64 a1.b8,.int .i64 a1.aM,.int .i64 a1.aS,.int .i64 a1.aY] Q (gg Q) Q Q Q Q Io (fun _=>j5 2 dc (fun _=>Co (a0.fl.getD tc.1.toNat default) a1))<|gp 1 ?_
 cases ci:decide (a0.fl.getD tc.1.toNat default=a1)
 rotate_left
 ·
  have H:=H.ct ci
  refine go 13<|WP.cond Q (fun _=>?_) nofun
  refine so<|wg (bZ.shut (p:=p0_) (m:=a0) (ga.1,ga.2.1,ga.2.2) hac (pm 4 [0,1,2,3])) fun _ _=>?_
  have H:=H.fH
  cases H.out; exact et () 2 [1,0] 1
 have H:=H.cf ci
 refine gl 2 [3]<|Dv.bW hac Q (gg Q) Q<|fp hac Q (gg Q) Q rB<|gl 2 [0]<|gr H fun gm H=>?_
 have hak:tc.1.toNat<a0.fl.length:=bE gm
 refine Dv.kA Q (gg Q) Q (ab 1 Q) Q fI iq iT gm.1 gm.2<|Dv.pv (j:=tc.1.toNat) (f:=0) Q (gg Q) Q (ab 1 Q) hak iq Q iT (Nat.le_of_ble_eq_true Q)<|el H fun tn ham H=>Dv.call Q (gg Q) (cL 107) Q (jJ.c ham)<|go 4<|ce H ?_ ?_ <;> intro H
 ·
  refine so<|wg (bZ.shut (p:=p0_) (m:=a0) (ga.1,ga.2.1,ga.2.2) hac (pm 4 [0,1,2,3])) fun _ _=>?_
  have H:=H.fH
  cases H.out; exact et () 2 [1,0] 1
 refine so<|WP.cond Q (fun _=>?_) nofun
 refine dg mX 8 128<|go 1<|Dv.bW hac Q T Q<|fp hac Q T Q rB<|gl 3 [0,3]<|gr H fun gn H=>?_
 have han:tc.1.toNat<a0.fl.length:=bE gn
 refine Dv.kA Q T Q (ab 1 Q) Q fI iq iT gn.1 gn.2<|Dv.HX (j:=tc.1.toNat) (f:=0) (jj:=1) a1 Q T Q Q (aZ (ak.K.one _)) iq iT Q Q han (Nat.le_of_ble_eq_true Q) Q (fun _=>fF kr)<|.fin ?_
 have H:=H.out
 refine ng (bZ.shut (p:=p0_) (m:=(⟨a0.fl.set tc.1.toNat a1,a0.gL⟩:bZ)) (ga.1,ga.2.1,ga.2.2) hac (pm 4 [0,1,2,3])) fun _ _=>?_
 refine ns 2 [1,0] 0 ?_
 exact jn (true,!tn,true,(⟨a0.fl.set tc.1.toNat a1,a0.gL⟩:bZ)) H
theorem jx.c (h:jx.f a0=some r):Pt prog 44 [vS a0] (vS r):=by
 refine pf func44 h fun R0 F H=>?_
 refine so<|wr 3 0<|go 1<|gr H fun ga H=>nV Q Q Q (iv ga)<|gq 1 ?_
 cases H.out; exact ek 0
theorem dh.c (h:dh.f k a0 a1=some r):Pt prog 45 [agg (lD.enc a0),agg (ak.enc a1)] (kN [agg (lD.enc r.1),vB r.2.1,vI r.2.2]):=by
 refine pf func45 h fun R0 F H=>?_
 refine wr 5 7<|Dv.box Q T Q cA nofun fun ba=>Dv.box Q T Q cA nofun fun bc=>al Q T Kj nofun fun bd=>go 2<|wr 3 0<|gl 1 [1]<|el H fun ta haa H=>cl Q (cL 103) Q (mf.c haa)<|go 1<|WP.seq<|wr 7 0<|kK 4 [1] ?_
 cases cc:(a1.aG != 3)
 rotate_left
 ·
  have H:=H.ct cc
  refine go 3<|WP.cond Q (fun _=>?_) nofun
  refine wr 4 2<|gl 1 [2]<|sy 0 ?_
  refine gq 2 ?_
  cases H.out; exact r3 i2 Q (.cons (au Q U40 Q c40 (ab 0 Q) Q) (.cons (aE Q) (.cons (aE Q) .nil)))
 have H:=H.cf cc
 refine go 3<|ce H ?_ ?_ <;> intro H
 ·
  refine wr 4 2<|gl 1 [2]<|sy 0 ?_
  refine gq 2 ?_
  cases H.out; exact r3 i2 Q (.cons (au Q U40 Q c40 (ab 0 Q) Q) (.cons (aE Q) (.cons (aE Q) .nil)))
 refine WP.skip<|wr 1 1<|al Q T Kj nofun fun be=>.fin<|so<|WP.xS H (fun qh:(Bool×Int×Bool×(List ak)×(List Int))×OV×OV=>qh.1) (fun qh=>[(3,eP bc),(4,eP bd),(8,eP be),(9,vB qh.1.1)]) (fun qh=>[aI be 40 [eq qh.2.1.1,eq qh.2.2.1],aI bd 40 [eN,eN],aI bc 52 (ak.enc a1),aI ba 40 (lD.enc a0),own ak.K qh.2.1.1 qh.1.2.2.2.1,own (bG .i64) qh.2.2.1 qh.1.2.2.2.2]++F) (fun qh H=>?_) (fun H=>?_)
 ·
  obtain ⟨pa,va,vb⟩:=qh
  refine WP.seq<|so<|cf H ?_ ?_ <;> intro H
  ·
   refine WP.skip<|wr 4 2<|gl 1 [0]<|sy 1 ?_
   refine go 2<|fz 4 [4,5,6] [1,1] ?_
   refine fz 4 [4,5,6] [1,1] ?_
   cases H.out; exact r4 i2 Q (.cons (au Q U40 Q c40 (ab 1 Q) Q) (.cons (aE Q) (.cons (aE Q) .nil)))
  refine wr 7 80<|gl 3 [0,2]<|Dv.lit ak.K ([a1]:List ak) (css:=[ak.enc a1]) Q T fI iq iT uZ Q dc dc Q ⟨(aZ (ak.K.one _)),T⟩ Q Q Q<|gr H fun ga H=>ap ak.K 4 ([a1]:List ak) bS fI (.inr ⟨_,fI⟩) nv ga nofun fun vd=>?_
  refine go 1<|sx 0 Q T Q Q (cells_one bK) rS Q Q Q nofun ?_
  refine .fin<|rg 6 40<|gl 2 [0]<|Dv.lit (bG .i64) ([(-1)]:List Int) (css:=[[vI (-1)]]) Q T qZ U3 c3 z3 Q dc dc Q ⟨(cells_one (ah Q)),T⟩ Q Q Q<|gr H fun gb H=>ap (bG .i64) 5 ([(-1)]:List Int) bS qZ (.inr ⟨_,qZ⟩) Hk gb nofun fun ve=>?_
  refine go 1<|sx 0 Q T Q Q (cells_one bK) Kg Q Q Q nofun ?_
  refine .fin<|wr 4 2<|gl 1 [0]<|sy 1 ?_
  refine go 2<|fz 4 [4,5,6] [1,1] ?_
  refine fz 4 [4,5,6] [1,1] ?_
  cases H.out; exact r4 i2 Q (.cons (au Q U40 Q c40 (ab 1 Q) Q) (.cons (aE Q) (.cons (aE Q) .nil)))
 refine so<|WP.block<|wg (eD ak.K none) fun _ _=>?_
 refine wg (eD (bG .i64) none) fun _ _=>?_
 refine ws 6 [2,3,4,5,1,0] 0 ?_
 refine lq (fun j_ (pc:Bool×Int×(List ak)×(List Int)×OV×OV)=>dh.l0 k a0 a1 j_ pc.1 pc.2.1 pc.2.2.1 pc.2.2.2.1) (false,0,([]:List ak),([]:List Int),lA,Fs) H [2,3,4,8] (fun pc=>[(9,vB pc.1),(10,vI pc.2.1)]) (fun pc=>[(0,aI be 40 [eq pc.2.2.2.2.1.1,eq pc.2.2.2.2.2.1]),(4,own ak.K pc.2.2.2.2.1.1 pc.2.2.1),(5,own (bG .i64) pc.2.2.2.2.2.1 pc.2.2.2.1)]) ?_
 rintro j_ ⟨xc,xd,xe,xf,vh,vi⟩ H
 rcases j_ with _ | ja
 ·
  exact (aV.no H).elim
 try dsimp only at H
 rw [dh.l0] at H
 refine WP.seq<|wr 5 0<|gl 3 [3]<|Dv.fg Q T Q fI<|go 1<|cf H ?_ ?_ <;> intro H
 ·
  refine WP.exit ?_
  have H:=H.out
  exact jn ((xc,xd,decide (xd<(a0.fL.length:Int)),xe,xf),vh,vi) H
 refine WP.skip<|WP.seq<|WP.block<|wr 7 96<|gl 3 [3]<|gr H fun gc H=>Dv.iY Q T Q Q fI iq iT gc.1 gc.2<|kM Q T Q wU Q<|al Q T s9 nofun fun bg=>sy 0 ?_
 refine .fin<|WP.seq<|r9 [0,3]<|ce H ?_ ?_ <;> intro H
 ·
  refine WP.seq<|wr 4 0<|gl 2 [3,0]<|el H fun tc hac H=>cl Q (cL 104) Q (iU.c hac)<|go 1<|cf H ?_ ?_ <;> intro H
  ·
   refine WP.skip<|WP.exit<|rg 3 0<|go 3<|ns 7 [0,1,2,3,4,5,6] 1 ?_
   exact bk ja (xc,aw (xd+1),xe,xf,vh,vi) H
  refine wr 4 2<|gl 1 [4]<|sy 2 ?_
  refine gq 2 ?_
  have H:=H.fH
  cases H.out; exact rt i2 Q () 7 [0,1,2,3,4,5,6] 7 (.cons (au Q U40 Q c40 (ab 2 Q) Q) (.cons (aE Q) (.cons (aE Q) .nil)))
 refine WP.skip<|WP.lf H (fun qi:(Bool×Bool×(List ak)×(List Int))×OV×OV=>qi.1) (fun qi=>[(2,eP ba),(3,eP bc),(4,eP bd),(8,eP be),(9,vB qi.1.1),(10,vI xd),(11,eP bg)]) (fun qi=>[aI bg 52 (ak.enc (ak.K.at a0.fL xd)),aI be 40 [eq qi.2.1.1,eq qi.2.2.1],aI bd 40 [eN,eN],aI bc 52 (ak.enc a1),aI ba 40 (lD.enc a0),own ak.K qi.2.1.1 qi.1.2.2.1,own (bG .i64) qi.2.2.1 qi.1.2.2.2]++F) (fun qi H=>?_) (fun H=>?_)
 ·
  obtain ⟨pe,vj,vk⟩:=qi
  refine wr 7 80<|gl 3 [1,0]<|Dv.lit ak.K ([ak.K.at a0.fL xd]:List ak) (css:=[ak.enc (ak.K.at a0.fL xd)]) Q T fI iq iT uZ Q dc dc Q ⟨(aZ (ak.K.one _)),T⟩ Q Q Q<|gr H fun gi H=>ap ak.K 5 ([ak.K.at a0.fL xd]:List ak) bS fI (.inr ⟨_,fI⟩) nv gi nofun fun vl=>?_
  refine go 1<|sx 1 Q T Q Q (cells_one bK) rS Q Q Q nofun ?_
  refine .fin<|dg mX 11 1280<|gl 5 [1,4]<|gr H fun gj H=>Dv.iY Q T Q Q qZ U3 c3 gj.1 gj.2<|mj Q T Q IC Q<|Dv.lit (bG .i64) ([(bG .i64).at a0.eF xd]:List Int) (css:=[[vI ((bG .i64).at a0.eF xd)]]) Q T qZ U3 c3 z3 Q dc dc Q ⟨(cells_one (ah Q)),T⟩ Q Q Q<|gr H fun gk H=>ap (bG .i64) 6 ([(bG .i64).at a0.eF xd]:List Int) bS qZ (.inr ⟨_,qZ⟩) Hk gk pB fun vm=>?_
  refine go 1<|sx 1 Q T Q Q (cells_one bK) Kg Q Q Q pB ?_
  refine .fin<|rg 3 0<|go 3<|ns 7 [0,1,2,3,4,5,6] 1 ?_
  exact bk ja (pe.1,aw (xd+1),pe.2.2.1++([ak.K.at a0.fL xd]:List ak),pe.2.2.2++([(bG .i64).at a0.eF xd]:List Int),vl,vm) H
 refine wr 9 0<|gp 3 ?_
 cases cg:!xc
 ·
  have H:=H.cf cg
  refine go 6<|WP.cond Q nofun (fun _=>?_)
  refine WP.skip ?_
  have H:=H.out
  exact jn ((xc,false,xe,xf),vh,vi) H
 have H:=H.ct cg
 refine gl 6 [3,0]<|cf H ?_ ?_ <;> intro H
 ·
  refine WP.skip ?_
  have H:=H.out
  exact jn ((xc,dO a1.ai ((ak.K.at a0.fL xd).ai),xe,xf),vh,vi) H
 refine wr 7 80<|gl 3 [1,3]<|Dv.lit ak.K ([a1]:List ak) (css:=[ak.enc a1]) Q T fI iq iT uZ Q dc dc Q ⟨(aZ (ak.K.one _)),T⟩ Q Q Q<|gr H fun gm H=>ap ak.K 5 ([a1]:List ak) bS fI (.inr ⟨_,fI⟩) nv gm nofun fun vn=>?_
 refine go 1<|sx 1 Q T Q Q (cells_one bK) rS Q Q Q nofun ?_
 refine .fin<|wr 6 40<|gl 2 [1]<|Dv.lit (bG .i64) ([(-1)]:List Int) (css:=[[vI (-1)]]) Q T qZ U3 c3 z3 Q dc dc Q ⟨(cells_one (ah Q)),T⟩ Q Q Q<|gr H fun gn H=>ap (bG .i64) 6 ([(-1)]:List Int) bS qZ (.inr ⟨_,qZ⟩) Hk gn nofun fun vo=>?_
 refine go 1<|sx 1 Q T Q Q (cells_one bK) Kg Q Q Q nofun ?_
 refine .fin<|rg 1 0<|gq 1 ?_
 have H:=H.out
 exact jn ((true,dO a1.ai ((ak.K.at a0.fL xd).ai),xe++([a1]:List ak),xf++([(-1)]:List Int)),vn,vo) H
theorem ax.c (h:ax.f k a0 a1 a2=some r):Pt prog 175 [sl ak.K a0,vS a1,pq a2] (kN [vI r.1,vB r.2]):=by
 refine pf func175 h fun R0 F H=>?_
 refine so<|wr 3 0<|go 1<|Dv.fg Q T Q fI<|go 1<|so<|sq H id [0,1,2,8] (fun pa=>[(9,vI pa.1)]) (fun _=>[]) (fun pa H=>?_) (fun H=>?_)
 ·
  refine wr 16 0<|gp 5 ?_
  cases cc:decide (pa.1<(a0.length:Int))
  ·
   have H:=H.cf cc
   refine gq 11 ?_
   cases H.out; exact ek 0
  have H:=H.ct cc
  refine go 3<|gr H fun ga H=>Dv.iY Q (gg Q) Q Q fI iq iT ga.1 ga.2<|kM Q (gg Q) Q wU Q<|go 1<|el H fun ta haa H=>Dv.rO (ret:=vI ta) Q (gg Q) Q Q ⟨_,_,_,haa,Q,Q⟩<|gq 4 ?_
  cases H.out; exact ek 0
 refine WP.block<|ws 0 [] 0 ?_
 refine lq (fun j_ (pc:Int×Int)=>ax.l0 k a0 a1 a2 j_ pc.1 pc.2) (0,(a0.length:Int)) H [0,1,2,8] (fun pc=>[(9,vI pc.1),(10,vI pc.2)]) (fun _=>[]) ?_
 rintro j_ ⟨xc,xd⟩ H
 rcases j_ with _ | ja
 ·
  exact (aV.no H).elim
 try dsimp only at H
 rw [ax.l0] at H
 refine WP.seq<|so<|cf H ?_ ?_ <;> intro H
 ·
  refine WP.exit ?_
  have H:=H.out
  exact jn (xc,xd,decide (xc<xd)) H
 refine WP.skip<|WP.block<|wr 7 0<|go 3<|Dv.HM Q T Q U3 Is<|nV Q Q Q (Ch dc)<|Dv.HM Q T Q Is U3<|go 1<|wr 8 0<|go 3<|gr H fun gb H=>Dv.iY Q T Q Q fI iq iT gb.1 gb.2<|kM Q T Q wU Q<|go 1<|el H fun tc hac H=>Dv.rO (ret:=vI tc) Q T Q Q ⟨_,_,_,hac,Q,Q⟩<|go 1<|cf H ?_ ?_ <;> intro H
 ·
  exact rg 2 0<|go 2<|bk ja (xc,aw ((IntKind.u64.wrap (aw (xc+xd))).fdiv 2)) H
 exact rg 3 0<|go 3<|bk ja (aw ((aw ((IntKind.u64.wrap (aw (xc+xd))).fdiv 2))+1),xd) H
theorem dA.c (h:dA.f a0 a1=some r):Pt prog 176 [agg (ak.enc a0),vS a1] (vI r):=by
 refine pf func176 h fun R0 F H=>?_
 refine wr 2 1<|Dv.box Q T Q cA nofun fun ba=>go 1<|wr 5 0<|gl 3 [0]<|el H fun ta haa H=>cl Q (cL 65) Q (aD.c haa)<|gq 1 ?_
 cases H.out; exact ek 1
theorem dy.c {v0_0 v0_1:OV} {b0_:Nat} (h:dy.f k a0 a1=some r):Tr prog 112 [eP b0_,vS a1] [aI b0_ 192 [eq v0_0.1,eq v0_1.1],own ak.K v0_0.1 a0.fl] (γ:=Unit) (fun _=>True) (fun g=>kN [vI r.1,vB r.2]) (fun g=>[aI b0_ 192 [eq v0_0.1,eq v0_1.1],own ak.K v0_0.1 a0.fl]):=by
 refine tf func112 h fun R0 F H=>?_
 refine so<|wr 10 0<|gl 5 [0]<|el H fun ta haa H=>px (B:=[own ak.K v0_0.1 a0.fl]) 2 [1,0] (cL 175) (Pt.BC _ (Pt.jK (ax.c haa) (.cons cM (.cons cM (.cons (v7 (cL 176) (by rintro _ _ ⟨a0_,a1_,r_,h_,rfl,rfl⟩; exact dA.c h_)) .nil)))) (.cons (su (ab 0 Q)) (.cons wY (.cons wY .nil))) (zf (oK oY (oK oY xt)))) ?_
 refine ei Q T Q Q<|ei Q T Q Q<|gq 2 ?_
 cases H.out; exact et () 2 [0,1] 0
theorem dQ.c (h:dQ.f a0 a1=some r):Pt prog 125 [agg (ak.enc a0),vI a1] (vI r):=by
 refine pf func125 h fun R0 F H=>?_
 refine wr 2 1<|Dv.box Q T Q cA nofun fun ba=>go 1<|WP.seq<|r9 [0]<|WP.block<|WP.seq<|WP.block<|WP.seq<|WP.block<|WP.seq<|WP.seq<|so<|cf H ?_ ?_ <;> intro H
 ·
  refine WP.skip<|so<|cf H ?_ ?_ <;> intro H
  ·
   refine WP.skip<|WP.exit<|sp ?_
   cases H.out; exact ek 1
  refine WP.exit<|WP.seq<|r9 [0]<|ce H ?_ ?_ <;> intro H
  ·
   refine sp ?_
   cases H.out; exact ek 1
  refine WP.skip<|WP.exit<|sp ?_
  cases H.out; exact ek 1
 refine WP.exit<|r9 [0]<|ce H ?_ ?_ <;> intro H
 ·
  refine sp ?_
  cases H.out; exact ek 1
 refine WP.skip<|WP.seq<|r9 [0]<|ce H ?_ ?_ <;> intro H
 ·
  refine sp ?_
  cases H.out; exact ek 1
 refine WP.skip<|WP.exit<|sp ?_
 cases H.out; exact ek 1
theorem bH.c (h:bH.f k a0 a1=some r):Pt prog 113 [agg (ak.enc a0),vI a1] (kN [vI r.1,vB r.2]):=by
 refine pf func113 h fun R0 F H=>?_
 refine wr 3 1<|Dv.box Q T Q cA nofun fun ba=>go 2<|sr H id [] (fun _=>[]) (fun _=>[]) (fun pa H=>?_) (fun H=>?_)
 ·
  refine sp ?_
  cases H.out; exact ek 1
 refine wr 2 0<|Dv.blda (qs:=[vI 30,vI 90]) (css:=[[vI 30],[vI 90]]) Q T U303 U3 c3 z303 Q ⟨(cells_one (ah Q)),⟨(cells_one (ah Q)),T⟩⟩ Q Q<|go 1<|WP.block<|ws 1 [0] 0 ?_
 refine lq (fun j_ (pc:Int)=>bH.l0 k a0 a1 j_ pc) 0 H [1,2,9] (fun pc=>[(10,vI pc)]) (fun _=>[]) ?_
 rintro j_ xc H
 rcases j_ with _ | ja
 ·
  exact (aV.no H).elim
 try dsimp only at H
 rw [bH.l0] at H
 refine so<|WP.seq<|cf H ?_ ?_ <;> intro H
 ·
  refine WP.exit ?_
  have H:=H.out
  exact jn (xc,decide (xc<2)) H
 refine WP.skip<|WP.seq<|WP.block<|wr 2 0<|gr H fun ga H=>Dv.ixa (Kd:=(bG .i64)) (xs:=([30,90]:List Int)) Q T Q Q Q U303 U3 Q c3 Q Q ga.1 ga.2 Q<|go 1<|r9 [0]<|wd mX 13 0<|gp 4 ?_
 cases cc:decide (a1<(aw (a0.aS+((bG .i64).at ([30,90]:List Int) xc))))
 ·
  have H:=H.cf cc
  refine go 9<|WP.cond Q nofun (fun _=>?_)
  exact WP.skip<|rg 2 0<|go 2<|bk ja (aw (xc+1)) H
 have H:=H.ct cc
 refine gl 3 [0]<|el H fun ta haa H=>Dv.call Q (gg Q) (cL 125) Q (dQ.c haa)<|gl 2 [0]<|el H fun tc hac H=>Dv.call Q (gg Q) (cL 125) Q (dQ.c hac)<|go 2<|cf H ?_ ?_ <;> intro H
 ·
  exact WP.skip<|rg 2 0<|go 2<|bk ja (aw (xc+1)) H
 refine sp ?_
 have H:=H.fH
 cases H.out; exact ek 1
theorem eC.c {p0_:OV} (h:eC.f k a0 a1=some r):Tr prog 46 [eq p0_.1,agg (ak.enc a1)] [cI.O p0_ a0] (γ:=Unit) (fun _=>True) (fun g=>kN [vB r.1,vI r.2.1]) (fun g=>[cI.O p0_ r.2.2]):=by
 refine tf func46 h fun R0 F H=>?_
 refine wr 3 1<|Dv.box Q T Q cA nofun fun ba=>go 2<|WP.seq<|wr 8 0<|kK 4 [0] ?_
 cases cc:(a1.aG != 3)
 rotate_left
 ·
  have H:=H.ct cc
  refine go 4<|WP.cond Q (fun _=>?_) nofun
  refine sp ?_
  cases H.out; exact et () 2 [0,1] 1
 have H:=H.cf cc
 refine gl 1 [0]<|el H fun ta haa H=>Dv.call Q (gg Q) (cL 105) Q (me.c haa)<|go 2<|ce H ?_ ?_ <;> intro H
 ·
  refine sp ?_
  cases H.out; exact et () 2 [0,1] 1
 refine WP.skip<|wr 9 0<|gl 3 [0]<|vg (cI.iK 1 Q) fun ga hac=>?_
 refine el H fun tc had H=>px 4 [0,1,2,3] (cL 112) (Tr.jK (dy.c had (b0_:=ga.1) (v0_0:=ga.2.1) (v0_1:=ga.2.2)) (.cons (iD hac) (.cons cM .nil))) ?_
 refine go 1<|ei Q T Q Q<|ei Q T Q Q<|go 2<|WP.xS H id (fun pa=>[(0,eq p0_.1),(3,eP ba)]) (fun pa=>[aI ba 52 (ak.enc a1),cI.O p0_ pa.2.2.2]++F) (fun pa H=>?_) (fun H=>?_)
 ·
  refine WP.seq<|wg (cI.iK 1 Q) fun gb hae=>?_
  refine dg mX 7 64<|go 1<|Dv.bW hae Q T Q<|fp hae Q T Q Ce<|gl 3 [0,3]<|el H fun te haf H=>cx 4 [2,0,1,3] (cL 109) (du.c haf (p0_:=gb.2.2)) pC fun _ _=>?_
  refine .fin<|WP.seq<|wr 7 0<|gl 1 [3]<|el H fun tg hag H=>cl Q (cL 113) Q (bH.c hag)<|go 1<|ei Q T Q Q<|ei Q T Q Q<|go 2<|so<|cf H ?_ ?_ <;> intro H
  ·
   refine WP.skip<|so<|wg (cI.shut (p:=p0_) (m:=(⟨pa.2.2.2.fl,te.2⟩:cI)) (gb.1,gb.2.1,gb.2.2) hae (pm 4 [1,2,0,3])) fun _ _=>?_
   cases H.out; exact et () 2 [1,0] 1
  refine dg mX 8 128<|go 1<|Dv.bW hae Q T Q<|fp hae Q T Q Ce<|gl 4 [1,3]<|el H fun tj hah H=>cx 4 [0,1,2,3] (cL 110) (eS.c hah (p0_:=gb.2.2)) pC fun _ _=>?_
  refine .fin<|so<|wg (cI.shut (p:=p0_) (m:=(⟨pa.2.2.2.fl,tj⟩:cI)) (gb.1,gb.2.1,gb.2.2) hae (pm 4 [1,2,0,3])) fun _ _=>?_
  cases H.out; exact et () 2 [1,0] 1
 refine WP.block<|wd mX 14 0<|gp 2 ?_
 cases cg:tc.2
 ·
  have H:=H.cf cg
  refine go 12<|WP.cond Q nofun (fun _=>?_)
  refine so<|WP.cond Q nofun (fun _=>?_)
  refine dg mX 12 2304<|go 2<|Dv.bW hac Q T Q<|fp hac Q T Q tR<|gl 3 [0,3]<|Dv.lit ak.K ([a1]:List ak) (css:=[ak.enc a1]) Q T fI iq iT uZ Q dc dc Q ⟨(aZ (ak.K.one _)),T⟩ Q Q Q<|el H fun tm hai H=>Dv.zt (pre:=[own ak.K ga.2.1.1 a0.fl]) (F:=[aI ga.1 192 [eq ga.2.1.1,eq ga.2.2.1],aN.O ga.2.2 a0.eY,aI ba 52 (ak.enc a1)]++F) (fun gc:OV=>[own ak.K gc.1 tm,aI ga.1 192 [eq ga.2.1.1,eq ga.2.2.1],aN.O ga.2.2 a0.eY,aI ba 52 (ak.enc a1)]++F) Q T (cL 108) Q (cX.c hai (p0_:=ga.2.1)) (mg (L:=[aI ga.1 192 [eq ga.2.1.1,eq ga.2.2.1],own ak.K ga.2.1.1 a0.fl,aN.O ga.2.2 a0.eY,aI ba 52 (ak.enc a1)]) (F:=F) [1,0,2,3] Q Q Q) Q pE (fun gc _=>?_)
  refine Dv.bW hac Q T Q<|fp hac Q T Q tR<|sx 1 Q T Q Q (cells_one bK) rS Q Q Q pB ?_
  refine .fin ?_
  have H:=H.out
  refine ng (cI.shut (p:=p0_) (m:=(⟨tm,a0.eY⟩:cI)) (ga.1,gc,ga.2.2) hac (pm 4 [1,0,2,3])) fun _ _=>?_
  refine ns 2 [1,0] 0 ?_
  exact jn (false,false,false,(⟨tm,a0.eY⟩:cI)) H
 have H:=H.ct cg
 refine gl 2 [3]<|Dv.bW hac Q (gg Q) Q<|fp hac Q (gg Q) Q tR<|gl 2 [0]<|gr H fun gi H=>?_
 have haj:tc.1.toNat<a0.fl.length:=bE gi
 refine Dv.kA Q (gg Q) Q (ab 1 Q) Q fI iq iT gi.1 gi.2<|Dv.pv (j:=tc.1.toNat) (f:=0) Q (gg Q) Q (ab 1 Q) haj iq Q iT (Nat.le_of_ble_eq_true Q)<|el H fun tn hak H=>Dv.call Q (gg Q) (cL 107) Q (jJ.c hak)<|go 3<|ce H ?_ ?_ <;> intro H
 ·
  refine so<|wg (cI.shut (p:=p0_) (m:=a0) (ga.1,ga.2.1,ga.2.2) hac (pm 4 [0,1,2,3])) fun _ _=>?_
  have H:=H.fH
  cases H.out; exact et () 2 [1,0] 1
 refine so<|WP.cond Q (fun _=>?_) nofun
 refine dg mX 8 128<|go 1<|Dv.bW hac Q T Q<|fp hac Q T Q tR<|gl 3 [0,3]<|gr H fun gj H=>?_
 have ham:tc.1.toNat<a0.fl.length:=bE gj
 refine Dv.kA Q T Q (ab 1 Q) Q fI iq iT gj.1 gj.2<|Dv.HX (j:=tc.1.toNat) (f:=0) (jj:=1) a1 Q T Q Q (aZ (ak.K.one _)) iq iT Q Q ham (Nat.le_of_ble_eq_true Q) Q (fun _=>fF kr)<|.fin ?_
 have H:=H.out
 refine ng (cI.shut (p:=p0_) (m:=(⟨a0.fl.set tc.1.toNat a1,a0.eY⟩:cI)) (ga.1,ga.2.1,ga.2.2) hac (pm 4 [0,1,2,3])) fun _ _=>?_
 refine ns 2 [1,0] 0 ?_
 exact jn (true,!tn,true,(⟨a0.fl.set tc.1.toNat a1,a0.eY⟩:cI)) H
theorem jg.c (h:jg.f a0=some r):Pt prog 47 [vS a0] (vS r):=by
 refine pf func47 h fun R0 F H=>?_
 refine so<|wr 3 0<|go 1<|gr H fun ga H=>nV Q Q Q (iv ga)<|gq 1 ?_
 cases H.out; exact ek 0
theorem nQ.c {b off:Nat} {bT:TypeId} {qs:Cs} {n:Int} (h0:qs[off]? = some (vI n)):Tr prog 178 [eq (.pointer (some ⟨b,off,none⟩))] [aI b bT qs] (γ:=Unit) (fun _=>True) (fun _=>vI n) (fun _=>[aI b bT qs]):=by
 exact Tr.body func178 (c:=_) Q ntmps178 (Nat.le_of_ble_eq_true Q) fun R0 F=>WP.seq<|WP.qL [(0,false)] kr<|go 1<|WP.seq<|WP.qL [(0,false),(1,false),(2,false),(3,false),(4,false)] kr<|go 3<|Dv.cextr (A:=aI b bT qs) Q T Q (GC h0 func237 kr Q xf237 xg237) (ab 0 Q)<|go 1<|rt i2 Q () 1 [0] 0 (.cons (aE Q) .nil)
theorem jP.c {b off:Nat} {bT:TypeId} {qs:Cs} {n m:Int} (h0:qs[off]? = some (vI n)):Tr prog 236 [eq (.pointer (some ⟨b,off,none⟩)),vI n,vI m] [aI b bT qs] (γ:=Unit) (fun _=>True) (fun _=>vB true) (fun _=>[aI b bT (qs.set off (vI m))]):=by
 exact Tr.body func236 (c:=_) Q ntmps236 (Nat.le_of_ble_eq_true Q) fun R0 F=>WP.seq<|WP.qL [(0,false)] kr<|go 1<|WP.seq<|WP.qL [(0,false),(1,false),(2,false),(3,false),(4,false),(5,true),(6,false)] kr<|go 5<|Dv.I7 (jj:=0) (qs:=qs) Q T Q (Kr h0 func265 kr Q xf265 xg265) Q nofun<|go 1<|rt i2 Q () 1 [0] 0 (.cons (aE Q) .nil)
theorem clock_Counter_Add.c {p0_:OV} (h:clock_Counter_Add.f k a0 a1=some r):Tr prog 177 [eq p0_.1,vI a1] [kI.O p0_ a0] (γ:=Unit) (fun _=>True) (fun g=>kN [vI r.1,vI r.2.1]) (fun g=>[kI.O p0_ r.2.2]):=by
 refine tf func177 h fun R0 F H=>?_
 refine so<|WP.seq<|so<|ce H ?_ ?_ <;> intro H
 ·
  refine sp ?_
  cases H.out; exact et () 1 [0] 0
 refine WP.skip<|WP.block<|ws 1 [0] 0 ?_
 refine lq (fun j_ (pa:Unit)=>clock_Counter_Add.l0 k a0 a1 j_) () H [0,1] (fun _=>[]) (fun _=>[]) ?_
 rintro j_ ⟨⟩ H
 rcases j_ with _ | ja
 ·
  exact (aV.no H).elim
 try dsimp only at H
 rw [clock_Counter_Add.l0] at H
 refine WP.block<|wr 5 0<|go 1<|Dv.pZ kI.nn Q T Q (ab 0 Q)<|vg (kI.iK 0 Q) fun ga haa=>?_
 refine fp haa Q T Q yR<|px 1 [0] (cL 178) (nQ.c (b:=ga) (off:=0) (bT:=257) (qs:=[vI a0.fn.fv,vI a0.dU]) (n:=a0.fn.fv) Q) ?_
 refine go 1<|WP.seq<|wr 10 0<|gp 3 ?_
 cases cc:decide (0<a1)
 ·
  have H:=H.cf cc
  refine go 7<|WP.cond Q nofun (fun _=>?_)
  refine WP.skip<|wr 5 0<|go 1<|Dv.bW haa Q T Q<|fp haa Q T Q rU<|gl 2 [0]<|WP.lf H id (fun pc=>[(0,eq p0_.1),(1,vI a1),(6,vI a0.fn.fv),(7,vI pc)]) (fun pc=>[kI.O p0_ a0]++F) (fun pc H=>?_) (fun H=>?_)
  rotate_left
  ·
   refine wr 8 0<|go 2<|Dv.bW haa Q T Q<|fp haa Q T Q rU<|gl 4 [0]<|cf H ?_ ?_ <;> intro H
   ·
    refine WP.skip ?_
    have H:=H.out
    refine ng (kI.shut (p:=p0_) (m:=a0) ga haa (pm 1 [0])) fun _ _=>?_
    exact jn a0.dU H
   refine rg 4 0<|gq 4 ?_
   have H:=H.out
   refine ng (kI.shut (p:=p0_) (m:=a0) ga haa (pm 1 [0])) fun _ _=>?_
   exact jn (aw (a0.fn.fv+a1)) H
  refine wr 10 256<|gp 3 ?_
  cases cg:(a1==0)
  rotate_left
  ·
   have H:=H.ct cg
   refine go 5<|Dv.Cn Q ⟨_,_,Q,Q,.inl Q⟩ nofun<|go 1<|WP.cond Q (fun _=>?_) nofun
   refine sp ?_
   cases H.out; exact et () 1 [0] 0
  have H:=H.cf cg
  refine go 1<|Dv.pZ kI.nn Q (gg Q) Q (ab 0 Q)<|vg (kI.iK 0 Q) fun gb hac=>?_
  refine fp hac Q (gg Q) Q yR<|go 2<|cx 1 [0] (cL 236) (jP.c (b:=gb) (off:=0) (bT:=257) (qs:=[vI a0.fn.fv,vI a0.dU]) (n:=a0.fn.fv) (m:=pc) Q) nofun fun _ _=>?_
  refine go 1<|WP.cond Q (fun _=>?_) nofun
  refine so<|wg (kI.shut (p:=p0_) (m:=(⟨(⟨pc⟩:Bz),a0.dU⟩:kI)) gb hac (pm 1 [0])) fun _ _=>?_
  cases H.out; exact et () 1 [0] 0
 have H:=H.ct cc
 refine go 2<|Dv.bW haa Q (gg Q) Q<|fp haa Q (gg Q) Q rU<|gl 3 [0]<|ce H ?_ ?_ <;> intro H
 ·
  refine so<|wg (kI.shut (p:=p0_) (m:=a0) ga haa (pm 1 [0])) fun _ _=>?_
  cases H.out; exact et () 1 [0] 0
 refine WP.skip<|wr 5 0<|go 1<|Dv.bW haa Q T Q<|fp haa Q T Q rU<|gl 2 [0]<|WP.lf H id (fun pe=>[(0,eq p0_.1),(1,vI a1),(6,vI a0.fn.fv),(7,vI pe)]) (fun pe=>[kI.O p0_ a0]++F) (fun pe H=>?_) (fun H=>?_)
 rotate_left
 ·
  refine wr 8 0<|go 2<|Dv.bW haa Q T Q<|fp haa Q T Q rU<|gl 4 [0]<|cf H ?_ ?_ <;> intro H
  ·
   refine WP.skip ?_
   have H:=H.out
   refine ng (kI.shut (p:=p0_) (m:=a0) ga haa (pm 1 [0])) fun _ _=>?_
   exact jn a0.dU H
  refine rg 4 0<|gq 4 ?_
  have H:=H.out
  refine ng (kI.shut (p:=p0_) (m:=a0) ga haa (pm 1 [0])) fun _ _=>?_
  exact jn (aw (a0.fn.fv+a1)) H
 refine wr 10 256<|gp 3 ?_
 cases ci:(a1==0)
 rotate_left
 ·
  have H:=H.ct ci
  refine go 5<|Dv.Cn Q ⟨_,_,Q,Q,.inl Q⟩ nofun<|go 1<|WP.cond Q (fun _=>?_) nofun
  refine sp ?_
  cases H.out; exact et () 1 [0] 0
 have H:=H.cf ci
 refine go 1<|Dv.pZ kI.nn Q (gg Q) Q (ab 0 Q)<|vg (kI.iK 0 Q) fun gc had=>?_
 refine fp had Q (gg Q) Q yR<|go 2<|cx 1 [0] (cL 236) (jP.c (b:=gc) (off:=0) (bT:=257) (qs:=[vI a0.fn.fv,vI a0.dU]) (n:=a0.fn.fv) (m:=pe) Q) nofun fun _ _=>?_
 refine go 1<|WP.cond Q (fun _=>?_) nofun
 refine so<|wg (kI.shut (p:=p0_) (m:=(⟨(⟨pe⟩:Bz),a0.dU⟩:kI)) gc had (pm 1 [0])) fun _ _=>?_
 cases H.out; exact et () 1 [0] 0
theorem fm.c {p0_:OV} (h:fm.f k a0=some r):Tr prog 114 [eq p0_.1] [kI.O p0_ a0] (γ:=Unit) (fun _=>True) (fun g=>kN [vI r.1,vI r.2.1]) (fun g=>[kI.O p0_ r.2.2]):=by
 refine tf func114 h fun R0 F H=>?_
 refine so<|wr 6 2<|go 1<|el H fun ta haa H=>cx 1 [0] (cL 177) (clock_Counter_Add.c haa (p0_:=p0_)) nofun fun _ _=>?_
 refine ei Q T Q Q<|ei Q T Q Q<|gq 2 ?_
 cases H.out; exact et () 1 [0] 0
theorem bA.c (h:bA.f k a0 a1=some r):Pt prog 115 [sl aH a0,vS a1] (vI r):=by
 refine pf func115 h fun R0 F H=>?_
 refine so<|sr H id [] (fun _=>[]) (fun _=>[]) (fun pa H=>?_) (fun H=>?_)
 ·
  refine sp ?_
  cases H.out; exact ek 0
 refine wr 3 0<|go 1<|Dv.fg Q T Q dW<|go 1<|WP.block<|ws 0 [] 0 ?_
 refine lq (fun j_ (pc:Int)=>bA.l0 k a0 a1 j_ pc) 0 H [0,1,7] (fun pc=>[(8,vI pc)]) (fun _=>[]) ?_
 rintro j_ xc H
 rcases j_ with _ | ja
 ·
  exact (aV.no H).elim
 try dsimp only at H
 rw [bA.l0] at H
 refine so<|WP.seq<|cf H ?_ ?_ <;> intro H
 ·
  refine WP.exit ?_
  have H:=H.out
  exact jn (xc,decide (xc<(a0.length:Int))) H
 refine WP.skip<|WP.seq<|WP.block<|so<|wr 6 0<|go 3<|gr H fun ga H=>Dv.iY Q T Q Q dW U9 c9 ga.1 ga.2<|mj Q T Q qt Q<|go 1<|cf H ?_ ?_ <;> intro H
 ·
  exact WP.skip<|rg 2 0<|go 2<|bk ja (aw (xc+1)) H
 refine sp ?_
 have H:=H.fH
 cases H.out; exact ek 0
theorem dS.c {a1 a2:Int} {p0_:OV} (h:dS.f a0 a1 a2=some r):Tr prog 116 [eq p0_.1,vI a1,vI a2] [own aH p0_.1 a0] (γ:=OV) (fun _=>True) (fun g=>eq g.1) (fun g=>[own aH g.1 r]):=by
  unfold dS.f at h
  obtain ⟨⟨h1,h2,h3⟩,h5⟩:=(aV.of h).an
  obtain rfl:=aV.out h5
  clear h h5
  obtain ⟨i,rfl⟩:=Int.eq_ofNat_of_zero_le h1
  obtain ⟨j,rfl⟩:=Int.eq_ofNat_of_zero_le (show (0:Int)≤a2 by omega)
  have hij:i≤j:=om
  have hj:j≤a0.length:=om
  obtain ⟨v,hv⟩:=p0_
  rw [Int.toNat_natCast,Int.toNat_natCast]
  refine Tr.body func116 (c:=_) Q ntmps116 (Nat.le_of_ble_eq_true Q) fun R0 F=>?_
  refine so<|wr 6 0<|go 4<|Dv.kG (Kd:=aH) (xs:=a0) (v:=v) Q T Q (ab 0 Q) dW<|Dv.sl3 (Kd:=aH) Q T Q (ab 0 Q) dW U9 c9 (eO Q) (eO Q) (eO Q) hij hj<|.fin<|WP.seq<|so<|WP.cond Q (fun c0=>?_) (fun c0=>?_)
  · have e1:i=j:=by have:=beq_iff_eq.1 c0; omega
    subst e1
    rw [List.take_append_drop]
    refine sp ?_
    exact WP.Bc (fun _ _ h=>h) Q (⟨v,hv⟩:OV) T (.cons (aE Q) .nil) Q (uT (L:=[own aH v a0]) (F:=F) [0] 0 Q Q Q)
  have hlt:i<j:=by
    have:¬ ((i:Int)=(j:Int)):=by simpa using c0
    omega
  have hzl:(a0.take i++a0.drop j++a0.drop (i+(a0.length-j))).length=a0.length:=by simp only [List.length_append,List.length_take,List.length_drop]; omega
  have hpl:(i+(a0.length-j))<(a0.take i++a0.drop j++a0.drop (i+(a0.length-j))).length:=by rw [hzl]; omega
  have hfin:((a0.take i++a0.drop j++a0.drop (i+(a0.length-j))).take (i+(a0.length-j))++List.replicate ((a0.take i++a0.drop j++a0.drop (i+(a0.length-j))).length-(i+(a0.length-j))) eE).take (i+(a0.length-j))=a0.take i++a0.drop j:=by
    have hl:(a0.take i++a0.drop j).length=(i+(a0.length-j)):=by rw [List.length_append,List.length_take,List.length_drop]; omega
    rw [List.take_append,List.take_take,Nat.min_self,List.take_left' hl]
    have:(i+(a0.length-j))-(a0.take i++a0.drop j).length=0:=om
    rw [this,List.take_zero,List.append_nil]
  refine WP.skip<|wr 3 0<|go 1<|Dv.kG (Kd:=aH) (xs:=a0) (v:=v) Q T Q (ab 0 Q) dW<|go 1<|wd mX 8 64<|go 2<|Dv.slpf (Kd:=aH) Q T Q (ab 0 Q) dW U9 c9 (eO Q) (Nat.le_trans hij hj)<|go 2<|Dv.slt (Kd:=aH) (p:=j) Q T Q (ab 0 Q) dW U9 c9 (eO Q) hj<|Dv.apt (Kd:=aH) (jj:=0) Q T Q Q Q dW dW U9 c9 ⟨hlt,hj⟩ (fun _=>fF kr)<|gq 1 ?_
  refine wr 6 32<|go 2<|Dv.lenp (Kd:=aH) (xs:=(a0.take i++a0.drop j++a0.drop (i+(a0.length-j)))) Q T Q (ab 0 Q) dW<|go 1<|Dv.slpt (Kd:=aH) (xs:=(a0.take i++a0.drop j++a0.drop (i+(a0.length-j)))) (p:=(i+(a0.length-j))) (q:=a0.length) Q T Q (ab 0 Q) dW U9 c9 (eO Q) (eO Q) om (Nat.le_of_eq hzl.symm)<|Dv.clrt (Kd:=aH) (jj:=0) eE Q T ((show opv _ _=some (eq (tlv _ v a0.length (i+(a0.length-j)))) from Q).trans (congrArg (fun z=>some (eq (tlv _ v z (i+(a0.length-j))))) hzl.symm)) dW z9 Q Q (fun u hu=>by simp [Value.cells] at hu; subst hu; rfl) hpl Q nofun<|.fin<|sp ?_
  refine WP.gh (l':=fun _:Unit=>[own aH (pfv v (i+(a0.length-j))) (a0.take i++a0.drop j)]++F) (iO (ok:=fun _=>True) (fun R w h=>by obtain ⟨_,_,h2⟩:=Fq (m:=(i+(a0.length-j))) 0 rfl (by rw [List.length_append,List.length_take,List.length_replicate]; omega) R w h; rw [hfin] at h2; exact ⟨(),T,h2⟩)) (fun _ _=>?_)
  exact WP.Bc (fun _ _ h=>h) Q (⟨pfv v (i+(a0.length-j)),CA hv⟩:OV) T (.cons (aE Q) .nil) Q (uT (L:=[own aH (pfv v (i+(a0.length-j))) (a0.take i++a0.drop j)]) (F:=F) [0] 0 Q Q Q)
theorem ie.c {p0_:OV} (h:ie.f k a0 a1=some r):Tr prog 48 [eq p0_.1,vS a1] [cH.O p0_ a0] (γ:=Unit) (fun _=>True) (fun g=>kN [vI r.1,vI r.2.1]) (fun g=>[cH.O p0_ r.2.2]):=by
 refine tf func48 h fun R0 F H=>?_
 refine so<|wr 10 16<|go 1<|Dv.pZ cH.nn Q T Q (ab 0 Q)<|vg (cH.iK 0 Q) fun ga haa=>?_
 refine fp haa Q T Q Cp<|gl 1 [0]<|el H fun ta hac H=>cx 4 [1,0,2,3] (cL 114) (fm.c hac (p0_:=ga.2.1)) nofun fun _ _=>?_
 refine go 1<|ei Q T Q Q<|ei Q T Q Q<|go 2<|WP.seq<|so<|ce H ?_ ?_ <;> intro H
 ·
  refine so<|wg (cH.shut (p:=p0_) (m:=(⟨ta.2.2,a0.eI,a0.nZ⟩:cH)) (ga.1,ga.2.1,ga.2.2.1,ga.2.2.2) haa (pm 4 [1,0,2,3])) fun _ _=>?_
  cases H.out; exact et () 1 [0] 0
 refine WP.skip<|WP.lf H id (fun pa=>[(0,eq p0_.1),(1,vS a1),(6,vI ta.1)]) (fun pa=>[cH.O p0_ pa]++F) (fun pa H=>?_) (fun H=>?_)
 ·
  refine wr 11 1152<|go 2<|Dv.pZ cH.nn Q T Q (ab 0 Q)<|vg (cH.iK 0 Q) fun gb had=>?_
  refine fp had Q T Q mV<|gl 2 [0]<|Dv.lit aH ([a1]:List BA) (css:=[[vS a1]]) Q T dW U9 c9 z9 Q dc dc Q ⟨(cells_one (ah Q)),T⟩ Q Q Q<|gr H fun gc H=>ap aH 2 ([a1]:List BA) bS dW (.inr ⟨_,dW⟩) zF gc nofun fun va=>?_
  refine Dv.bW had Q T Q<|fp had Q T Q mV<|sx 0 Q T Q Q (cells_one bK) G4 Q Q Q nofun ?_
  refine .fin<|wr 7 64<|go 1<|Dv.bW had Q T Q<|fp had Q T Q yW<|gl 3 [0]<|Dv.mup (jj:=3) ta.1 Q T Q Q Q Q tB (dN U9) nofun<|.fin<|so<|wg (cH.shut (p:=p0_) (m:=(⟨pa.iH,pa.eI++([a1]:List BA),mput pa.nZ a1 ta.1⟩:cH)) (gb.1,gb.2.1,va,gb.2.2.2) had (pm 4 [0,1,2,3])) fun _ _=>?_
  cases H.out; exact et () 1 [0] 0
 refine wr 11 0<|go 1<|Dv.bW haa Q T Q<|fp haa Q T Q yW<|gl 2 [1]<|Dv.mlk 0 Q T Q (ab 3 Q) Q tB (dN U9) z3 (fun _=>Q)<|go 1<|ei Q T Q Q<|ei Q T Q Q<|go 2<|so<|cf H ?_ ?_ <;> intro H
 ·
  refine WP.skip ?_
  have H:=H.out
  refine ng (cH.shut (p:=p0_) (m:=(⟨ta.2.2,a0.eI,a0.nZ⟩:cH)) (ga.1,ga.2.1,ga.2.2.1,ga.2.2.2) haa (pm 4 [1,0,2,3])) fun _ _=>?_
  exact jn (⟨ta.2.2,a0.eI,a0.nZ⟩:cH) H
 refine wr 7 0<|go 1<|Dv.bW haa Q T Q<|fp haa Q T Q mV<|gl 2 [1]<|el H fun tc hae H=>px (B:=[own aH ga.2.2.1.1 a0.eI]) 4 [2,0,1,3] (cL 115) (Pt.BC _ (bA.c hae) (.cons (su (ab 0 Q)) (.cons wY .nil)) oY) ?_
 refine go 1<|rg 12 2304<|go 2<|Dv.bW haa Q T Q<|fp haa Q T Q mV<|gl 4 [1]<|el H fun te haf H=>cx 4 [2,0,1,3] (cL 116) (dS.c haf (p0_:=ga.2.2.1)) nofun fun gi _=>?_
 refine Dv.bW haa Q T Q<|fp haa Q T Q mV<|sx 2 Q T Q Q (cells_one bK) G4 Q Q Q nofun ?_
 refine .fin ?_
 have H:=H.out
 refine ng (cH.shut (p:=p0_) (m:=(⟨ta.2.2,te,a0.nZ⟩:cH)) (ga.1,ga.2.1,gi,ga.2.2.2) haa (pm 4 [2,1,0,3])) fun _ _=>?_
 exact jn (⟨ta.2.2,te,a0.nZ⟩:cH) H
theorem kj.c (h:kj.f a0=some r):Pt prog 49 [agg (kZ.enc a0)] (vS r):=by
 refine pf func49 h fun R0 F H=>?_
 refine wr 2 1<|Dv.box Q T Q cA nofun fun ba=>go 1<|WP.seq<|r9 [0]<|cf H ?_ ?_ <;> intro H
 ·
  refine WP.skip<|WP.seq<|r9 [0]<|ce H ?_ ?_ <;> intro H
  ·
   refine wr 4 0<|gl 2 [0]<|gr H fun ga H=>nV Q Q Q (iv ga)<|gq 1 ?_
   cases H.out; exact ek 1
  refine WP.skip<|wr 4 0<|gl 2 [0]<|gr H fun gb H=>nV Q Q Q (iv gb)<|gq 1 ?_
  cases H.out; exact ek 1
 refine so<|sq H id [1] (fun pa=>[(3,vS pa)]) (fun _=>[]) (fun pa H=>?_) (fun H=>?_)
 rotate_left
 ·
  refine r9 [0]<|cf H ?_ ?_ <;> intro H
  ·
   refine WP.skip ?_
   have H:=H.out
   exact jn (⟨#[32,48]⟩:BA) H
  refine rg 1 0<|gq 1 ?_
  have H:=H.out
  exact jn (⟨#[32,49]⟩:BA) H
 refine wr 17 0<|gl 3 [0]<|gr H fun gc H=>nV Q Q Q (iv gc)<|gr H fun gi H=>nV Q Q Q (iv gi)<|gl 3 [0]<|gr H fun gj H=>nV Q Q Q (iv gj)<|gr H fun gk H=>nV Q Q Q (iv gk)<|gl 3 [0]<|gr H fun gm H=>nV Q Q Q (iv gm)<|go 1<|gr H fun gn H=>nV Q Q Q (iv gn)<|gq 1 ?_
 cases H.out; exact ek 1
end Go.Proofs.YtfknmdelgepbjaaGreatDoor
