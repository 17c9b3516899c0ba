import Derived.Test.YtfknmdelgepbjaaGreatDoorZTab
import Derived.Test.YtfknmdelgepbjaaGreatDoorZWalks1
import Derived.Test.YtfknmdelgepbjaaGreatDoorConQ
import Derived.Test.YtfknmdelgepbjaaGreatDoorConA6
import Derived.Test.YtfknmdelgepbjaaGreatDoorConC4
import Derived.Lib.Join
import Derived.Eval
set_option linter.all false
set_option autoImplicit true
set_option maxRecDepth 10000
set_option maxHeartbeats 20000000
namespace Go.Proofs.YtfknmdelgepbjaaGreatDoor
open Go Go.Sp Tryz
theorem dz.c (h:dz.f k a0 a1=some r):Pt prog 218 [agg (aF.enc a0),vS a1] (vI r):=by
 refine pf func218 h fun R0 F H=>?_
 refine wr 2 1<|Dv.box Q T Q cA nofun fun ba=>go 1<|wr 4 0<|gl 2 [0]<|el H fun ta haa H=>cl Q (cL 148) Q (eC.c haa)<|go 1<|WP.seq<|so<|ce H ?_ ?_ <;> intro H
 ·
  refine sp ?_
  cases H.out; exact ek 1
 refine WP.skip<|wr 4 4<|go 2<|gr H fun ga H=>?_
 obtain ⟨ti867,ti867a,ti867b,ti867c,ti867d⟩:=GO
 refine Dv.Gs (Kd:=(bp .i64)) (0:Int) Q T Q Q qV ti867a ti867b ti867c ti867d Q dc Q ga nofun (fun va=>?_)
 refine go 1<|WP.iQ H id (fun pa=>[(5,vI ta),(6,eq va.1)]) (fun pa=>[ay ba 113 (aF.enc a0),own (bp .i64) va.1 pa.2.2]++F) (fun pa H=>?_) (fun H=>?_)
 ·
  refine wr 5 0<|go 2<|gr H fun gb H=>?_
  have hac:ta.toNat<pa.2.2.length:=bC gb
  refine Dv.kF Q T Q (ab 1 Q) Q qV U3 c3 gb.1 gb.2<|Dv.oH (j:=ta.toNat) (f:=0) (p:=vI (pa.2.2.getD ta.toNat default)) Q T Q (ab 1 Q) hac U3 Q Q<|gq 1 ?_
  cases H.out; exact ek 2
 refine so<|WP.block<|ws 2 [1,0] 0 ?_
 refine lp (fun j_ (pc:Int×(List Int))=>dz.l0 k a0 ta j_ pc.1 pc.2) (0,List.replicate (ax (ta+1)).toNat (0:Int)) H (fun pc=>[(2,bO ba),(5,vI ta),(6,eq va.1),(7,vI pc.1)]) (fun pc=>[ay ba 113 (aF.enc a0),own (bp .i64) va.1 pc.2]++F) ?_
 rintro j_ ⟨xa,xb⟩ H
 rcases j_ with _ | ja
 ·
  exact (aZ.no H).elim
 try dsimp only at H
 rw [dz.l0] at H
 refine WP.seq<|so<|ce H ?_ ?_ <;> intro H
 rotate_left
 ·
  refine WP.exit ?_
  have H:=H.out
  exact jn (xa,decide (xa≤ta),xb) H
 refine WP.skip<|WP.iQ H id (fun pe=>[(2,bO ba),(5,vI ta),(6,eq va.1),(7,vI xa)]) (fun pe=>[ay ba 113 (aF.enc a0),own (bp .i64) va.1 pe.2.2]++F) (fun pe H=>?_) (fun H=>?_)
 ·
  exact rg 3 0<|go 3<|bk ja (ax (xa+1),pe.2.2) H
 refine WP.block<|so<|WP.block<|ws 2 [0,1] 0 ?_
 refine lp (fun j_ (pg:Int×(List Int))=>dz.l1 k a0 xa j_ pg.1 pg.2) (0,xb) H (fun pg=>[(2,bO ba),(5,vI ta),(6,eq va.1),(7,vI xa),(8,vI pg.1)]) (fun pg=>[ay ba 113 (aF.enc a0),own (bp .i64) va.1 pg.2]++F) ?_
 rintro j_ ⟨xc,xd⟩ H
 rcases j_ with _ | jc
 ·
  exact (aZ.no H).elim
 try dsimp only at H
 rw [dz.l1] at H
 refine WP.seq<|wr 9 0<|gl 4 [0]<|gr H fun gi H=>Dv.kg Q T Q Q py km mK gi.1 gi.2<|fr Q T Q CN Q<|lM Q T Q H3 Q<|Dv.jN Q T Q eh<|go 1<|ce H ?_ ?_ <;> intro H
 rotate_left
 ·
  refine WP.exit ?_
  have H:=H.out
  exact jn (xc,decide (xc<(((Event.K.at a0.fL xa).ae).length:Int)),xd) H
 refine WP.skip<|WP.seq<|WP.block<|dg mX 24 8388608<|go 4<|gr H fun gj H=>?_
 have had:xa.toNat<xd.length:=bC gj
 refine Dv.kF Q T Q (ab 1 Q) Q qV U3 c3 gj.1 gj.2<|Dv.oH (j:=xa.toNat) (f:=0) (p:=vI (xd.getD xa.toNat default)) Q T Q (ab 1 Q) had U3 Q Q<|gl 5 [0,0]<|gr H fun gk H=>Dv.kg Q T Q Q py km mK gk.1 gk.2<|fr Q T Q CN Q<|lM Q T Q H3 Q<|go 1<|gr H fun gm H=>Dv.kg Q T Q Q eh U9 c9 gm.1 gm.2<|lM Q T Q o9 Q<|el H fun tc hae H=>cl Q (cL 148) Q (eC.c hae)<|gr H fun gn H=>?_
 have haf:tc.toNat<xd.length:=bC gn
 refine Dv.kF Q T Q (ab 1 Q) Q qV U3 c3 gn.1 gn.2<|Dv.oH (j:=tc.toNat) (f:=0) (p:=vI (xd.getD tc.toNat default)) Q T Q (ab 1 Q) haf U3 Q Q<|go 1<|Dv.IH Q T Q Q<|gr H fun gu H=>?_
 have hag:xa.toNat<xd.length:=bC gu
 exact Dv.kF Q T Q (ab 1 Q) Q qV U3 c3 gu.1 gu.2<|Dv.Iy (j:=xa.toNat) (f:=0) (jj:=1) (max (xd.getD xa.toNat default) (ax ((xd.getD tc.toNat default)+1))) Q T Q Q (cells_one (aj Q)) U3 c3 Q Q hag (Nat.le_of_ble_eq_true Q) Q (fun _=>fh kr)<|.fin<|rg 3 0<|go 3<|bk jc (ax (xc+1),xd.set xa.toNat (max (xd.getD xa.toNat default) (ax ((xd.getD tc.toNat default)+1)))) H
theorem dC.c (h:dC.f k a0 a1=some r):Pt prog 152 [agg (aF.enc a0),vS a1] (agg (Pos.enc r)):=by
 refine pf func152 h fun R0 F H=>?_
 refine wr 2 3<|Dv.box Q T Q cA nofun fun ba=>al Q T s6 nofun fun bc=>.fin<|wr 6 32<|gl 2 [1]<|el H fun ta haa H=>cl Q (cL 218) Q (dz.c haa)<|go 1<|Dv.lx (qs:=[vI ta,vS a1]) (css:=[[vI ta],[vS a1]]) Q T yr FD IK Q ⟨(cells_one (aj Q)),⟨(cells_one (aj Q)),T⟩⟩ Q Q<|sy 0 ?_
 refine .fin ?_
 cases H.out; exact r2 i2 Q (.cons (aw Q yr Q B1 (ab 0 Q) Q) .nil)
theorem kn.c (h:kn.f k a0 a1 a2=some r):Pt prog 95 [agg (bq.enc a0),vS a1,vS a2] (kR [agg (Pos.enc r.1),vB r.2]):=by
 refine pf func95 h fun R0 F H=>?_
 refine wr 3 3<|Dv.box Q T Q cA nofun fun ba=>al Q T s6 nofun fun bc=>go 1<|wr 5 24<|gl 2 [1]<|el H fun ta haa H=>cl Q (cL 77) Q (gZ.c haa)<|al Q T ow nofun fun bd=>sy 0 ?_
 refine .fin<|WP.seq<|wr 4 0<|gl 2 [0]<|el H fun tc hac H=>cl Q (cL 148) Q (eC.c hac)<|go 1<|ce H ?_ ?_ <;> intro H
 rotate_left
 ·
  refine WP.skip<|wr 5 8<|gl 2 [0]<|el H fun te had H=>cl Q (cL 152) Q (dC.c had)<|sy 1 ?_
  refine gq 1 ?_
  cases H.out; exact r3 i2 Q (.cons (aw Q yr Q B1 (ab 1 Q) Q) (.cons (aG Q) .nil))
 refine wr 3 2<|Dv.lx (qs:=[vI 0,vS eE]) (css:=[]) Q T yr FD IK Q T Q Q<|sy 1 ?_
 refine gq 1 ?_
 cases H.out; exact r3 i2 Q (.cons (aw Q yr Q B1 (ab 1 Q) Q) (.cons (aG Q) .nil))
theorem qx.c (h:qx.f k a0 a1 a2=some r):Pt prog 38 [agg (pO.enc a0),agg (bq.enc a1),agg (ai.enc a2)] (kR [agg (pO.enc r.1),vB r.2.1,vI r.2.2]):=by
 refine pf func38 h fun R0 F H=>?_
 refine wr 6 15<|Dv.box Q T Q cA nofun fun ba=>Dv.box Q T Q cA nofun fun bc=>Dv.box Q T Q cA nofun fun bd=>al Q T Jc nofun fun be=>go 2<|wr 3 0<|gl 1 [1]<|el H fun ta haa H=>cl Q (cL 92) Q (fH.c haa)<|go 1<|WP.seq<|wr 7 0<|kW 4 [1] ?_
 cases cc:(a2.aE != 1)
 rotate_left
 ·
  have H:=H.ct cc
  refine go 3<|WP.cond Q (fun _=>?_) nofun
  refine wr 4 2<|gl 1 [3]<|sy 0 ?_
  refine gq 2 ?_
  cases H.out; exact r4 i2 Q (.cons (aw Q Ab Q FM (ab 0 Q) Q) (.cons (aG Q) (.cons (aG Q) .nil)))
 have H:=H.cf cc
 refine go 3<|ce H ?_ ?_ <;> intro H
 ·
  refine wr 4 2<|gl 1 [3]<|sy 0 ?_
  refine gq 2 ?_
  cases H.out; exact r4 i2 Q (.cons (aw Q Ab Q FM (ab 0 Q) Q) (.cons (aG Q) (.cons (aG Q) .nil)))
 refine WP.skip<|wr 9 0<|gl 7 [2,1,1,1]<|el H fun tc hac H=>cl Q (cL 93) Q (oq.c hac)<|go 1<|WP.seq<|so<|ce H ?_ ?_ <;> intro H
 ·
  refine wr 13 3840<|gl 3 [3,1]<|el H fun te had H=>cl Q (cL 94) Q (ko.c had)<|go 1<|eD Q T Q Q<|eD Q T Q Q<|eD Q T Q Q<|al Q T I8 nofun fun bg=>al Q T uC nofun fun bh=>sy 1 ?_
  refine sy 0 ?_
  refine go 1<|wr 7 16<|gl 3 [5,1]<|Dv.lx (qs:=[sl MK.K a0.fL,vI te.1.nS,sl ai.K te.1.fL,vI te.1.o5]) (css:=[[sl MK.K a0.fL],mI.enc te.1]) Q T Ab D9 HP Q ⟨(cells_one dQ),⟨(bn (mI.K.one _)),T⟩⟩ Q Q<|sy 2 ?_
  refine gq 2 ?_
  cases H.out; exact rt i2 Q () 6 [0,1,2,3,4,5] 6 (.cons (aw Q Ab Q FM (ab 2 Q) Q) (.cons (aG Q) (.cons (aG Q) .nil)))
 refine WP.skip<|WP.seq<|so<|ce H ?_ ?_ <;> intro H
 ·
  refine wr 5 4<|gl 2 [3]<|sy 0 ?_
  refine gq 2 ?_
  cases H.out; exact r4 i2 Q (.cons (aw Q Ab Q FM (ab 0 Q) Q) (.cons (aG Q) (.cons (aG Q) .nil)))
 refine WP.skip<|wr 12 1536<|gl 5 [2,1,1]<|el H fun tg hae H=>cl Q (cL 95) Q (kn.c hae)<|go 1<|eD Q T Q Q<|eD Q T Q Q<|al Q T s6 nofun fun bi=>sy 0 ?_
 refine go 1<|wd mX 11 0<|gl 3 [4,2]<|el H fun tj haf H=>cl Q (cL 40) Q (pz.c haf)<|gl 1 [0]<|el H fun tm hag H=>cl Q (cL 25) Q (jy.c hag)<|go 1<|eD Q T Q Q<|eD Q T Q Q<|go 2<|wr 8 32<|gl 3 [4]<|Dv.lx (qs:=[sl MK.K tm.1,vI a0.fP.nS,sl ai.K a0.fP.fL,vI a0.fP.o5]) (css:=[[sl MK.K tm.1],mI.enc a0.fP]) Q T Ab D9 HP Q ⟨(cells_one dQ),⟨(bn (mI.K.one _)),T⟩⟩ Q Q<|go 1<|sy 1 ?_
 refine gq 2 ?_
 cases H.out; exact r5 i2 Q (.cons (aw Q Ab Q FM (ab 1 Q) Q) (.cons (aG Q) (.cons (aG Q) .nil)))
theorem cH.c (h:cH.f a0 a1 a2=some r):Pt prog 219 [vI a0,vI a1,vI a2] (vB r):=by
 refine pf func219 h fun R0 F H=>?_
 refine so<|wr 9 0<|gp 4 ?_
 cases cc:decide (a1≤a0)
 ·
  have H:=H.cf cc
  refine gq 5 ?_
  cases H.out; exact ek 0
 have H:=H.ct cc
 refine gq 5 ?_
 cases H.out; exact ek 0
theorem iJ.c (h:iJ.f a0=some r):Pt prog 220 [agg (ai.enc a0)] (vB r):=by
 refine pf func220 h fun R0 F H=>?_
 refine wr 2 1<|Dv.box Q T Q cA nofun fun ba=>go 1<|sp ?_
 cases H.out; exact ek 1
theorem ll.c (h:ll.f k a0=some r):Pt prog 222 [vS a0] (vB r):=by
 refine pf func222 h fun R0 F H=>?_
 refine so<|wr 11 0<|gp 3 ?_
 cases cc:decide (a0=eE)
 rotate_left
 ·
  have H:=H.ct cc
  refine gq 8 ?_
  cases H.out; exact ek 0
 have H:=H.cf cc
 refine gp 4 ?_
 cases cg:decide (a0=(⟨#[109,97,105,110]⟩:BA))
 rotate_left
 ·
  have H:=H.ct cg
  refine gq 4 ?_
  cases H.out; exact ek 0
 have H:=H.cf cg
 refine go 1<|el H fun ta haa H=>Dv.call Q (gg Q) (cL 211) Q (ei.c haa)<|gq 2 ?_
 cases H.out; exact ek 0
theorem fS.c (h:fS.f k a0=some r):Pt prog 221 [agg (ai.enc a0)] (vB r):=by
 refine pf func221 h fun R0 F H=>?_
 refine wr 2 1<|Dv.box Q T Q cA nofun fun ba=>go 1<|wr 14 0<|gl 2 [0]<|el H fun ta haa H=>cl Q (cL 212) Q (kj.c haa)<|gp 1 ?_
 cases cc:ta
 ·
  have H:=H.cf cc
  refine gq 10 ?_
  cases H.out; exact ek 1
 have H:=H.ct cc
 refine gl 2 [0]<|el H fun tc hac H=>Dv.call Q (gg Q) (cL 211) Q (ei.c hac)<|gp 2 ?_
 cases cg:tc
 ·
  have H:=H.cf cg
  refine gq 5 ?_
  cases H.out; exact ek 1
 have H:=H.ct cg
 refine gl 2 [0]<|el H fun te had H=>Dv.call Q (gg Q) (cL 222) Q (ll.c had)<|gq 2 ?_
 cases H.out; exact ek 1
theorem fj.c {c0:Int→Int→Int→Option Bool} (h:fj.f k a0 c0=some r):Pt prog 223 [agg (ai.enc a0),rp [mR c0]] (vB r):=by
 refine pf func223 h fun R0 F H=>?_
 refine wr 2 1<|Dv.box Q T Q cA nofun fun ba=>go 1<|wr 15 0<|gl 2 [0]<|el H fun ta haa H=>cl Q (cL 212) Q (kj.c haa)<|gp 1 ?_
 cases cc:ta
 ·
  have H:=H.cf cc
  refine gq 11 ?_
  cases H.out; exact ek 1
 have H:=H.ct cc
 refine kW 4 [0] ?_
 cases cg:!a0.jX
 rotate_left
 ·
  have H:=H.ct cg
  refine gq 7 ?_
  cases H.out; exact ek 1
 have H:=H.cf cg
 refine lM Q (gg Q) Q IN Q<|gl 2 [0]<|el H fun tc hac H=>Dv.sV (ret:=vB tc) Q (gg Q) Q Q ⟨_,_,_,_,hac,Q,Q⟩<|gq 3 ?_
 cases H.out; exact ek 1
theorem fm.c {c0:Int→Int→Int→Option Bool} (h:fm.f a0 c0=some r):Pt prog 224 [agg (ai.enc a0),rp [mR c0]] (vB r):=by
 refine pf func224 h fun R0 F H=>?_
 refine wr 2 1<|Dv.box Q T Q cA nofun fun ba=>go 1<|wr 5 0<|lM Q T Q IN Q<|gl 2 [0]<|el H fun ta haa H=>Dv.sV (ret:=vB ta) Q T Q Q ⟨_,_,_,_,haa,Q,Q⟩<|gq 1 ?_
 cases H.out; exact ek 1
theorem nI.c (h:nI.f k=some r):Pt prog 153 [] (sl ia r):=by
 refine pf func153 h fun R0 F H=>?_
 refine so<|wr 2 3<|al Q T zc336 nofun fun ba=>sy 0 ?_
 refine .fin<|wr 4 0<|Dv.gh (rA (E':=[(0,dY),(1,rp [eq (.func (.func 219) #[] #[])])]) (l':=F) 0 Q (ah Q ao (ah Q dm cT)) (bP .nil fun _=>av)) (fun _ _=>?_)
 refine Dv.mkf (Q:=lT (fun a0_=>fj.f k a0_ cH.f)) (cL 223) (by rintro _ _ ⟨a0_,r_,h_,rfl,rfl⟩; exact Pt.jY (fj.c h_) (.cons cG (.cons (IU (.cons (wz (cL 219) (by rintro _ _ ⟨a0_,a1_,a2_,r_,h_,rfl,rfl⟩; exact cH.c h_)) .nil)) .nil))) Q T Q Q<|Dv.mkf (Q:=lT (fun a0_=>fm.f a0_ cH.f)) (cL 224) (by rintro _ _ ⟨a0_,r_,h_,rfl,rfl⟩; exact Pt.jY (fm.c h_) (.cons cG (.cons (IU (.cons (wz (cL 219) (by rintro _ _ ⟨a0_,a1_,a2_,r_,h_,rfl,rfl⟩; exact cH.c h_)) .nil)) .nil))) Q T Q Q<|Dv.lit ia ([iJ.f,fS.f k,fun a0_=>fj.f k a0_ cH.f,fun a0_=>fm.f a0_ cH.f]:List (ai→Option Bool)) (css:=[[jE iJ.f],[jE (fS.f k)],[jE (fun a0_=>fj.f k a0_ cH.f)],[jE (fun a0_=>fm.f a0_ cH.f)]]) Q T U273 Km c201 z201 Q dc dc Q ⟨(Aq (wz (cL 220) (by rintro _ _ ⟨a0_,r_,h_,rfl,rfl⟩; exact iJ.c h_)) (aj Q)),⟨(Aq (wz (cL 221) (by rintro _ _ ⟨a0_,r_,h_,rfl,rfl⟩; exact fS.c h_)) (aj Q)),⟨(cells_one nR),⟨(cells_one nR),T⟩⟩⟩⟩ Q Q Q<|gq 1 ?_
 cases H.out; exact ek 0
theorem iq.c (h:iq.f a0=some r):Pt prog 154 [vI a0] (vB r):=by
 refine pf func154 h fun R0 F H=>?_
 refine so<|wr 7 0<|gp 3 ?_
 cases cc:decide (0≤a0)
 ·
  have H:=H.cf cc
  refine gq 4 ?_
  cases H.out; exact ek 0
 have H:=H.ct cc
 refine gq 4 ?_
 cases H.out; exact ek 0
theorem lU.c (h:lU.f a0=some r):Pt prog 155 [agg (ai.enc a0)] (agg (ai.enc r)):=by
 refine pf func155 h fun R0 F H=>?_
 refine wr 2 3<|Dv.box Q T Q cA nofun fun ba=>al Q T uC nofun fun bc=>.fin<|wr 11 1536<|gl 8 [1,1,1,1]<|Dv.lx (qs:=[vI a0.aE,vS eE,vS a0.ak,vS eE,vS eE,vB false,vB false,vI 0,vI 0,vI a0.aQ,vI a0.aX]) (css:=[[vI a0.aE],[vS a0.ak],[vI a0.aQ],[vI a0.aX]]) Q T ir Bk uW Q ⟨(cells_one (aj Q)),⟨(cells_one (aj Q)),⟨(cells_one (aj Q)),⟨(cells_one (aj Q)),T⟩⟩⟩⟩ Q Q<|al Q T uC nofun fun bd=>sy 0 ?_
 refine .fin<|WP.seq<|sf [2]<|WP.block<|so<|ce H ?_ ?_ <;> intro H
 ·
  refine dg mX 16 43520<|gl 9 [2,2,2,2]<|sx 0 Q T Q Q cE sz9 Q Q Q pD ?_
  refine go 1<|sx 0 Q T Q Q cE sz9 Q Q Q pD ?_
  refine go 1<|sx 0 Q T Q Q cE sz9 Q Q Q pD ?_
  refine go 1<|sv 0 ?_
  refine .fin<|wr 2 2<|gl 1 [0]<|sy 1 ?_
  refine .fin ?_
  cases H.out; exact r3 i2 Q (.cons (aw Q ir Q iW (ab 1 Q) Q) .nil)
 refine so<|ce H ?_ ?_ <;> intro H
 rotate_left
 ·
  refine so<|ce H ?_ ?_ <;> intro H
  rotate_left
  ·
   refine WP.skip<|wr 2 2<|gl 1 [0]<|sy 1 ?_
   refine .fin ?_
   cases H.out; exact r3 i2 Q (.cons (aw Q ir Q iW (ab 1 Q) Q) .nil)
  refine rg 4 8<|gl 3 [2]<|sy 0 ?_
  refine .fin<|wr 2 2<|gl 1 [0]<|sy 1 ?_
  refine .fin ?_
  cases H.out; exact r3 i2 Q (.cons (aw Q ir Q iW (ab 1 Q) Q) .nil)
 refine wd mX 8 160<|gl 5 [2,2]<|sx 0 Q T Q Q cE sz9 Q Q Q pD ?_
 refine go 1<|sv 0 ?_
 refine .fin<|sf [2]<|ce H ?_ ?_ <;> intro H
 rotate_left
 ·
  refine WP.skip<|wr 2 2<|gl 1 [0]<|sy 1 ?_
  refine .fin ?_
  cases H.out; exact r3 i2 Q (.cons (aw Q ir Q iW (ab 1 Q) Q) .nil)
 refine rg 4 8<|gl 3 [2]<|sy 0 ?_
 refine .fin<|wr 2 2<|gl 1 [0]<|sy 1 ?_
 refine .fin ?_
 cases H.out; exact r3 i2 Q (.cons (aw Q ir Q iW (ab 1 Q) Q) .nil)
theorem eO.c (h:eO.f k a0=some r):Pt prog 96 [agg (ai.enc a0)] (vB r):=by
 refine pf func96 h fun R0 F H=>?_
 refine wr 2 1<|Dv.box Q T Q cA nofun fun ba=>go 1<|WP.seq<|wd mX 18 0<|kW 4 [0] ?_
 cases cc:decide (a0.aE<0)
 rotate_left
 ·
  have H:=H.ct cc
  refine go 14<|WP.cond Q (fun _=>?_) nofun
  refine sp ?_
  cases H.out; exact ek 1
 have H:=H.cf cc
 refine kW 5 [0] ?_
 cases cg:decide (3<a0.aE)
 rotate_left
 ·
  have H:=H.ct cg
  refine go 9<|WP.cond Q (fun _=>?_) nofun
  refine sp ?_
  cases H.out; exact ek 1
 have H:=H.cf cg
 refine el H fun ta haa H=>Dv.call Q (gg Q) (cL 153) Q (nI.c haa)<|gl 2 [0]<|gr H fun ga H=>Dv.kg Q (gg Q) Q Q U273 Km c201 ga.1 ga.2<|lM Q (gg Q) Q sc201 Q<|gl 1 [0]<|el H fun tc hac H=>Dv.sV (ret:=vB tc) Q (gg Q) Q Q ⟨_,_,hac,Q,Q⟩<|go 2<|ce H ?_ ?_ <;> intro H
 ·
  refine sp ?_
  cases H.out; exact ek 1
 refine WP.skip<|so<|wd mX 22 0<|gl 2 [0,0]<|el H fun te had H=>cl Q (cL 155) Q (lU.c had)<|Dv.eqs [.int .i64 a0.aE,.string a0.aa,.string a0.ak,.string a0.bB,.string a0.ag,.bool a0.au,.bool a0.jX,.int .i64 a0.bV,.int .i64 a0.aU,.int .i64 a0.aQ,.int .i64 a0.aX] [.int .i64 te.aE,.string te.aa,.string te.ak,.string te.bB,.string te.ag,.bool te.au,.bool te.jX,.int .i64 te.bV,.int .i64 te.aU,.int .i64 te.aQ,.int .i64 te.aX] Q T Q Q Q Q HH (fun _=>nE 2 dc (fun _=>Cc a0 te))<|gp 1 ?_
 cases ci:decide (a0=te)
 ·
  have H:=H.cf ci
  refine gq 17 ?_
  cases H.out; exact ek 1
 have H:=H.ct ci
 refine gl 2 [0]<|el H fun tg hae H=>Dv.call Q (gg Q) (cL 156) Q (lX.c hae)<|gp 2 ?_
 cases cj:tg
 ·
  have H:=H.cf cj
  refine gq 12 ?_
  cases H.out; exact ek 1
 have H:=H.ct cj
 refine gl 3 [0]<|el H fun tj haf H=>Dv.IS Q (gg Q) Q (cL 154) Q (iq.c haf)<|gp 2 ?_
 cases ck:tj
 ·
  have H:=H.cf ck
  refine gq 6 ?_
  cases H.out; exact ek 1
 have H:=H.ct ck
 refine gl 3 [0]<|el H fun tm hag H=>Dv.IS Q (gg Q) Q (cL 154) Q (iq.c hag)<|gq 2 ?_
 cases H.out; exact ek 1
theorem kM.c {v0_0:OV} {b0_:Nat} (h:kM.f a0 a1=some r):Tr prog 157 [bO b0_,vS a1] [ay b0_ 265 [vS a0.cM,eq v0_0.1],kh Value.string aT.O v0_0.1 a0.ar] (γ:=Unit) (fun _=>True) (fun g=>kR [agg (Event.enc r.1),vB r.2]) (fun g=>[ay b0_ 265 [vS a0.cM,eq v0_0.1],kh Value.string aT.O v0_0.1 a0.ar]):=by
 refine tf func157 h fun R0 F H=>?_
 refine wr 2 1<|al Q T uR nofun fun ba=>go 1<|WP.seq<|wr 4 0<|go 2<|el H fun ta haa H=>o8 3 [1,2,0] (cL 144) (ew.c haa (b0_:=b0_) (v0_0:=v0_0)) ?_
 refine go 1<|ce H ?_ ?_ <;> intro H
 ·
  refine wr 3 2<|Dv.lx (qs:=[vS eE,vS eE,dY,vS eE,vS eE,vI 0]) (css:=[]) Q T km Ez Di Q T Q Q<|sy 0 ?_
  refine gq 1 ?_
  cases H.out; exact rt i2 Q () 3 [0,1,2] 1 (.cons (oS (aw Q km Q mK (ab 0 Q) Q) (nZ (.cons cG (.cons cG (.cons dD (.cons cG (.cons cG (.cons cG .nil)))))))) (.cons (aG Q) .nil))
 refine WP.skip<|wr 12 1024<|gl 5 [1]<|vg (mq 2 Q) fun za hac=>?_
 refine Dv.Ep iV Q T Q (ab 0 Q) Q vT (dR U9) A7 (fun _=>Q)<|gr H fun ga H=>vg (qB hac Q ga (pm 4 [1,0,2,3])) fun _ _=>?_
 refine Dv.pA aT.nn Q T Q (ab 0 Q)<|vg (aT.iM 0 Q) fun gb had=>?_
 refine fp had Q T Q tL<|gl 1 [0]<|el H fun tc hae H=>cl Q (cL 146) Q (iA.c hae)<|sy 3 ?_
 refine go 1<|wg (aT.shut (p:=((mget (cY a0.ar za) a1).getD iV)) (m:=(mget a0.ar a1).getD default) gb had (pm 5 [0,1,2,3,4])) fun _ _=>?_
 refine wg (oa hac Q ga (pm 5 [0,1,2,3,4])) fun _ _=>?_
 refine wg (iy hac Q (pm 4 [1,0,2,3])) fun _ _=>?_
 cases H.out; exact rt i2 Q () 3 [1,2,0] 1 (.cons (aw Q km Q mK (ab 1 Q) Q) (.cons (aG Q) .nil))
theorem iN.c {v0_0:OV} {b0_:Nat} (h:iN.f a0 a1 a2 a3=some r):Tr prog 97 [bO b0_,vS a1,vS a2,vS a3] [ay b0_ 186 [eq v0_0.1],kh Value.string bf.O v0_0.1 a0.bx] (γ:=Unit) (fun _=>True) (fun g=>vI r) (fun g=>[ay b0_ 186 [eq v0_0.1],kh Value.string bf.O v0_0.1 a0.bx]):=by
 refine tf func97 h fun R0 F H=>?_
 refine so<|wr 5 4<|go 2<|el H fun ta haa H=>cx 2 [0,1] (cL 88) (aO.c haa (b0_:=b0_) (v0_0:=v0_0)) nofun fun va _=>?_
 refine Dv.mkc (fst:=#[va.1]) Q T Q<|go 1<|wr 9 192<|go 2<|vg (bf.iM 2 Q) fun ga hac=>?_
 refine el H fun tc had H=>Dv.Ej (fst:=#[va.1]) (B:=[ay ga.1 265 [vS ta.cM,eq ga.2.1],kh Value.string aT.O ga.2.1 ta.ar]) (F:=[ay b0_ 186 [eq v0_0.1],I4 Value.string bf.O v0_0.1 a0.bx a1 va]++F) Q T Q (cL 157) Q (Tr.jY (kM.c had (b0_:=ga.1) (v0_0:=ga.2)) (.cons (iD hac) (.cons cG .nil))) (mc (L:=[ay ga.1 265 [vS ta.cM,eq ga.2.1],kh Value.string aT.O ga.2.1 ta.ar,ay b0_ 186 [eq v0_0.1],I4 Value.string bf.O v0_0.1 a0.bx a1 va]) (F:=F) [0,1,2,3] Q Q Q)<|go 1<|eD Q T Q Q<|eD Q T Q Q<|al Q T uR nofun fun ba=>sy 0 ?_
 refine go 1<|WP.seq<|WP.block<|so<|ce H ?_ ?_ <;> intro H
 ·
  refine so<|wg (bf.shut (p:=va) (m:=ta) (ga.1,ga.2) hac (pm 5 [1,2,0,3,4])) fun _ _=>?_
  refine wg (fu (aO.r haa) (pm 4 [3,0,1,2])) fun _ _=>?_
  cases H.out; exact et () 3 [1,2,0] 1
 refine WP.seq<|so<|ce H ?_ ?_ <;> intro H
 ·
  refine WP.skip<|ce H ?_ ?_ <;> intro H
  ·
   refine so<|wg (bf.shut (p:=va) (m:=ta) (ga.1,ga.2) hac (pm 5 [1,2,0,3,4])) fun _ _=>?_
   refine wg (fu (aO.r haa) (pm 4 [3,0,1,2])) fun _ _=>?_
   cases H.out; exact et () 3 [1,2,0] 1
  refine WP.skip<|so<|wg (bf.shut (p:=va) (m:=ta) (ga.1,ga.2) hac (pm 5 [1,2,0,3,4])) fun _ _=>?_
  refine wg (fu (aO.r haa) (pm 4 [3,0,1,2])) fun _ _=>?_
  cases H.out; exact et () 3 [1,2,0] 1
 refine wr 8 0<|gp 3 ?_
 cases cc:decide (a3=(⟨#[109,97,105,110]⟩:BA))
 ·
  have H:=H.cf cc
  refine go 5<|WP.cond Q nofun (fun _=>?_)
  refine so<|ce H ?_ ?_ <;> intro H
  ·
   refine WP.skip<|ce H ?_ ?_ <;> intro H
   ·
    refine so<|wg (bf.shut (p:=va) (m:=ta) (ga.1,ga.2) hac (pm 5 [1,2,0,3,4])) fun _ _=>?_
    refine wg (fu (aO.r haa) (pm 4 [3,0,1,2])) fun _ _=>?_
    cases H.out; exact et () 3 [1,2,0] 1
   refine WP.skip<|so<|wg (bf.shut (p:=va) (m:=ta) (ga.1,ga.2) hac (pm 5 [1,2,0,3,4])) fun _ _=>?_
   refine wg (fu (aO.r haa) (pm 4 [3,0,1,2])) fun _ _=>?_
   cases H.out; exact et () 3 [1,2,0] 1
  refine rg 5 0<|gl 5 [0]<|ce H ?_ ?_ <;> intro H
  ·
   refine so<|wg (bf.shut (p:=va) (m:=ta) (ga.1,ga.2) hac (pm 5 [1,2,0,3,4])) fun _ _=>?_
   refine wg (fu (aO.r haa) (pm 4 [3,0,1,2])) fun _ _=>?_
   cases H.out; exact et () 3 [1,2,0] 1
  refine WP.skip<|so<|wg (bf.shut (p:=va) (m:=ta) (ga.1,ga.2) hac (pm 5 [1,2,0,3,4])) fun _ _=>?_
  refine wg (fu (aO.r haa) (pm 4 [3,0,1,2])) fun _ _=>?_
  cases H.out; exact et () 3 [1,2,0] 1
 have H:=H.ct cc
 refine gl 5 [0]<|ce H ?_ ?_ <;> intro H
 ·
  refine WP.skip<|ce H ?_ ?_ <;> intro H
  ·
   refine so<|wg (bf.shut (p:=va) (m:=ta) (ga.1,ga.2) hac (pm 5 [1,2,0,3,4])) fun _ _=>?_
   refine wg (fu (aO.r haa) (pm 4 [3,0,1,2])) fun _ _=>?_
   cases H.out; exact et () 3 [1,2,0] 1
  refine WP.skip<|so<|wg (bf.shut (p:=va) (m:=ta) (ga.1,ga.2) hac (pm 5 [1,2,0,3,4])) fun _ _=>?_
  refine wg (fu (aO.r haa) (pm 4 [3,0,1,2])) fun _ _=>?_
  cases H.out; exact et () 3 [1,2,0] 1
 refine so<|ce H ?_ ?_ <;> intro H
 ·
  refine WP.skip<|ce H ?_ ?_ <;> intro H
  ·
   refine so<|wg (bf.shut (p:=va) (m:=ta) (ga.1,ga.2) hac (pm 5 [1,2,0,3,4])) fun _ _=>?_
   refine wg (fu (aO.r haa) (pm 4 [3,0,1,2])) fun _ _=>?_
   cases H.out; exact et () 3 [1,2,0] 1
  refine WP.skip<|so<|wg (bf.shut (p:=va) (m:=ta) (ga.1,ga.2) hac (pm 5 [1,2,0,3,4])) fun _ _=>?_
  refine wg (fu (aO.r haa) (pm 4 [3,0,1,2])) fun _ _=>?_
  cases H.out; exact et () 3 [1,2,0] 1
 refine rg 5 0<|gl 5 [0]<|ce H ?_ ?_ <;> intro H
 ·
  refine so<|wg (bf.shut (p:=va) (m:=ta) (ga.1,ga.2) hac (pm 5 [1,2,0,3,4])) fun _ _=>?_
  refine wg (fu (aO.r haa) (pm 4 [3,0,1,2])) fun _ _=>?_
  cases H.out; exact et () 3 [1,2,0] 1
 refine WP.skip<|so<|wg (bf.shut (p:=va) (m:=ta) (ga.1,ga.2) hac (pm 5 [1,2,0,3,4])) fun _ _=>?_
 refine wg (fu (aO.r haa) (pm 4 [3,0,1,2])) fun _ _=>?_
 cases H.out; exact et () 3 [1,2,0] 1
theorem b7.c (h:b7.f k a0 a1=some r):Pt prog 226 [sl ai.K a0,agg (ai.enc a1)] (vI r):=by
 refine pf func226 h fun R0 F H=>?_
 refine wr 2 1<|Dv.box Q T Q cA nofun fun ba=>go 1<|WP.kN H id (fun pa=>[]) (fun pa=>[ay ba 52 (ai.enc a1)]++F) (fun pa H=>?_) (fun H=>?_)
 ·
  refine sp ?_
  cases H.out; exact ek 1
 refine wr 3 0<|go 1<|Dv.jN Q T Q fF<|go 1<|WP.block<|ws 1 [0] 0 ?_
 refine lp (fun j_ (pc:Int)=>b7.l0 k a0 a1 j_ pc) 0 H (fun pc=>[(0,sl ai.K a0),(3,bO ba),(7,vI (a0.length:Int)),(8,vI pc)]) (fun pc=>[ay ba 52 (ai.enc a1)]++F) ?_
 rintro j_ xa H
 rcases j_ with _ | ja
 ·
  exact (aZ.no H).elim
 try dsimp only at H
 rw [b7.l0] at H
 refine so<|WP.seq<|ce H ?_ ?_ <;> intro H
 rotate_left
 ·
  refine WP.exit ?_
  have H:=H.out
  exact jn (xa,decide (xa<(a0.length:Int))) H
 refine WP.skip<|WP.seq<|WP.block<|so<|wd mX 6 0<|gl 3 [0]<|gr H fun ga H=>Dv.kg Q T Q Q fF ir iW ga.1 ga.2<|oz Q T Q vP Q<|Dv.eqs [.int .i64 a1.aE,.string a1.aa,.string a1.ak,.string a1.bB,.string a1.ag,.bool a1.au,.bool a1.jX,.int .i64 a1.bV,.int .i64 a1.aU,.int .i64 a1.aQ,.int .i64 a1.aX] [.int .i64 ((ai.K.at a0 xa).aE),.string ((ai.K.at a0 xa).aa),.string ((ai.K.at a0 xa).ak),.string ((ai.K.at a0 xa).bB),.string ((ai.K.at a0 xa).ag),.bool ((ai.K.at a0 xa).au),.bool ((ai.K.at a0 xa).jX),.int .i64 ((ai.K.at a0 xa).bV),.int .i64 ((ai.K.at a0 xa).aU),.int .i64 ((ai.K.at a0 xa).aQ),.int .i64 ((ai.K.at a0 xa).aX)] Q T Q Q Q Q HH (fun _=>nE 2 dc (fun _=>Cc a1 (ai.K.at a0 xa)))<|.fin<|ce H ?_ ?_ <;> intro H
 rotate_left
 ·
  exact WP.skip<|rg 2 0<|go 2<|bk ja (ax (xa+1)) H
 refine sp ?_
 have H:=H.fW
 cases H.out; exact ek 1
theorem fb.c (h:fb.f k a0 a1=some r):Pt prog 158 [sl ai.K a0,agg (ai.enc a1)] (vB r):=by
 refine pf func158 h fun R0 F H=>?_
 refine wr 2 1<|Dv.box Q T Q cA nofun fun ba=>go 1<|wr 5 0<|gl 2 [0]<|el H fun ta haa H=>cl Q (cL 226) Q (b7.c haa)<|gq 2 ?_
 cases H.out; exact ek 1
theorem eV.c {a1 a2:Int} {p0_:OV} (h:eV.f a0 a1 a2=some r):Tr prog 159 [eq p0_.1,vI a1,vI a2] [own ai.K p0_.1 a0] (γ:=OV) (fun _=>True) (fun g=>eq g.1) (fun g=>[own ai.K g.1 r]):=by
  unfold eV.f at h
  obtain ⟨⟨h1,h2,h3⟩,h5⟩:=(aZ.of h).aq
  obtain rfl:=aZ.out h5
  clear h h5
  obtain ⟨i,rfl⟩:=Int.eq_ofNat_of_zero_le h1
  obtain ⟨j,rfl⟩:=Int.eq_ofNat_of_zero_le (show (0:Int)≤a2 by omega)
  have hij:i≤j:=om
  have hj:j≤a0.length:=om
  obtain ⟨v,hv⟩:=p0_
  rw [Int.toNat_natCast,Int.toNat_natCast]
  refine Tr.body func159 (c:=_) Q ntmps159 (Nat.le_of_ble_eq_true Q) fun R0 F=>?_
  refine so<|wr 6 0<|go 4<|Dv.kG (Kd:=ai.K) (xs:=a0) (v:=v) Q T Q (ab 0 Q) fF<|Dv.sl3 (Kd:=ai.K) Q T Q (ab 0 Q) fF ir iW (eP Q) (eP Q) (eP Q) hij hj<|.fin<|WP.seq<|so<|WP.cond Q (fun c0=>?_) (fun c0=>?_)
  · have e1:i=j:=by have:=beq_iff_eq.1 c0; omega
    subst e1
    rw [List.take_append_drop]
    refine sp ?_
    exact WP.A5 (fun _ _ h=>h) Q (⟨v,hv⟩:OV) T (.cons (aG Q) .nil) Q (uN (L:=[own ai.K v a0]) (F:=F) [0] 0 Q Q Q)
  have hlt:i<j:=by
    have:¬ ((i:Int)=(j:Int)):=by simpa using c0
    omega
  have hzl:(a0.take i++a0.drop j++a0.drop (i+(a0.length-j))).length=a0.length:=by simp only [List.length_append,List.length_take,List.length_drop]; omega
  have hpl:(i+(a0.length-j))<(a0.take i++a0.drop j++a0.drop (i+(a0.length-j))).length:=by rw [hzl]; omega
  have hfin:((a0.take i++a0.drop j++a0.drop (i+(a0.length-j))).take (i+(a0.length-j))++List.replicate ((a0.take i++a0.drop j++a0.drop (i+(a0.length-j))).length-(i+(a0.length-j))) (⟨0,eE,eE,eE,eE,false,false,0,0,0,0⟩:ai)).take (i+(a0.length-j))=a0.take i++a0.drop j:=by
    have hl:(a0.take i++a0.drop j).length=(i+(a0.length-j)):=by rw [List.length_append,List.length_take,List.length_drop]; omega
    rw [List.take_append,List.take_take,Nat.min_self,List.take_left' hl]
    have:(i+(a0.length-j))-(a0.take i++a0.drop j).length=0:=om
    rw [this,List.take_zero,List.append_nil]
  refine WP.skip<|wr 3 0<|go 1<|Dv.kG (Kd:=ai.K) (xs:=a0) (v:=v) Q T Q (ab 0 Q) fF<|go 1<|wd mX 8 64<|go 2<|Dv.slpf (Kd:=ai.K) Q T Q (ab 0 Q) fF ir iW (eP Q) (Nat.le_trans hij hj)<|go 2<|Dv.slt (Kd:=ai.K) (p:=j) Q T Q (ab 0 Q) fF ir iW (eP Q) hj<|Dv.apt (Kd:=ai.K) (jj:=0) Q T Q Q Q fF fF ir iW ⟨hlt,hj⟩ (fun _=>fh kr)<|gq 1 ?_
  refine wr 6 32<|go 2<|Dv.lenp (Kd:=ai.K) (xs:=(a0.take i++a0.drop j++a0.drop (i+(a0.length-j)))) Q T Q (ab 0 Q) fF<|go 1<|Dv.slpt (Kd:=ai.K) (xs:=(a0.take i++a0.drop j++a0.drop (i+(a0.length-j)))) (p:=(i+(a0.length-j))) (q:=a0.length) Q T Q (ab 0 Q) fF ir iW (eP Q) (eP Q) om (Nat.le_of_eq hzl.symm)<|Dv.clrt (Kd:=ai.K) (jj:=0) (⟨0,eE,eE,eE,eE,false,false,0,0,0,0⟩:ai) Q T ((show opv _ _=some (eq (tlv _ v a0.length (i+(a0.length-j)))) from Q).trans (congrArg (fun z=>some (eq (tlv _ v z (i+(a0.length-j))))) hzl.symm)) fF uW Q Q (fun u hu=>List.all_eq_true.1 (show (Value.cells _).toList.all (fun u=>u.oneCell')=true by kernel_rfl) u hu) hpl Q nofun<|.fin<|sp ?_
  refine WP.gh (l':=fun _:Unit=>[own ai.K (pfv v (i+(a0.length-j))) (a0.take i++a0.drop j)]++F) (iR (ok:=fun _=>True) (fun R w h=>by obtain ⟨_,_,h2⟩:=D3 (m:=(i+(a0.length-j))) 0 rfl (by rw [List.length_append,List.length_take,List.length_replicate]; omega) R w h; rw [hfin] at h2; exact ⟨(),T,h2⟩)) (fun _ _=>?_)
  exact WP.A5 (fun _ _ h=>h) Q (⟨pfv v (i+(a0.length-j)),Cp hv⟩:OV) T (.cons (aG Q) .nil) Q (uN (L:=[own ai.K (pfv v (i+(a0.length-j))) (a0.take i++a0.drop j)]) (F:=F) [0] 0 Q Q Q)
theorem jK.c {p0_:OV} (h:jK.f k a0 a1=some r):Tr prog 98 [eq p0_.1,agg (ai.enc a1)] [jB.O p0_ a0] (γ:=Unit) (fun _=>True) (fun g=>kR [agg (ai.enc r.1),vB r.2.1]) (fun g=>[jB.O p0_ r.2.2]):=by
 refine tf func98 h fun R0 F H=>?_
 refine wr 3 3<|Dv.box Q T Q cA nofun fun ba=>al Q T uC nofun fun bc=>go 1<|WP.seq<|WP.seq<|wg (jB.iM 2 Q) fun ga haa=>?_
 refine dg mX 6 0<|go 1<|Dv.bZ haa Q T Q<|fp haa Q T Q o0<|gl 2 [0,3]<|el H fun ta hac H=>o8 (B:=[own ai.K ga.2.1 a0.fl]) 4 [1,0,2,3] (cL 158) (Pt.Bu _ (fb.c hac) (.cons (rR (ab 0 Q)) (.cons wc .nil)) oV) ?_
 refine .fin<|ce H ?_ ?_ <;> intro H
 ·
  refine wr 3 2<|Dv.lx (qs:=[vI 0,vS eE,vS eE,vS eE,vS eE,vB false,vB false,vI 0,vI 0,vI 0,vI 0]) (css:=[]) Q T ir Bk uW Q T Q Q<|sy 2 ?_
  refine go 1<|wg (jB.shut (p:=p0_) (m:=a0) (ga.1,ga.2) haa (pm 4 [0,1,2,3])) fun _ _=>?_
  cases H.out; exact rt i2 Q () 3 [1,2,0] 2 (.cons (aw Q ir Q iW (ab 1 Q) Q) (.cons (aG Q) .nil))
 refine WP.skip<|wd mX 11 1152<|go 2<|Dv.bZ haa Q T Q<|fp haa Q T Q o0<|gl 2 [0,3]<|Dv.lit ai.K ([a1]:List ai) (css:=[ai.enc a1]) Q T fF ir iW uW Q dc dc Q ⟨(bn (ai.K.one _)),T⟩ Q Q Q<|gr H fun gb H=>Dv.F0 (Kd:=ai.K) (jj:=1) (ys:=([a1]:List ai)) (fun va:OV=>[ay ga.1 247 [vI a0.dZ,eq ga.2.1,vI a0.qG],own ai.K va.1 (a0.fl++([a1]:List ai)),ay bc 52 [vI 0,vS eE,vS eE,vS eE,vS eE,vB false,vB false,vI 0,vI 0,vI 0,vI 0],ay ba 52 (ai.enc a1)]++F) Q T Q Q Q bY fF (.inr ⟨_,fF⟩) nt Q dc gb Q pD (fun va=>?_)
 refine Dv.bZ haa Q T Q<|fp haa Q T Q o0<|sx 0 Q T Q Q (cells_one bQ) q8 Q Q Q pB ?_
 refine .fin<|WP.seq<|wd mX 10 0<|go 1<|Dv.bZ haa Q T Q<|fp haa Q T Q o0<|gl 1 [0]<|Dv.kG Q T Q (ab 1 Q) fF<|go 1<|Dv.bZ haa Q T Q<|fp haa Q T Q GJ<|gl 2 [0]<|ce H ?_ ?_ <;> intro H
 ·
  refine wr 3 2<|Dv.lx (qs:=[vI 0,vS eE,vS eE,vS eE,vS eE,vB false,vB false,vI 0,vI 0,vI 0,vI 0]) (css:=[]) Q T ir Bk uW Q T Q Q<|sy 2 ?_
  refine go 1<|wg (jB.shut (p:=p0_) (m:=(⟨a0.dZ,a0.fl++([a1]:List ai),a0.qG⟩:jB)) (ga.1,va) haa (pm 4 [0,1,2,3])) fun _ _=>?_
  cases H.out; exact rt i2 Q () 3 [1,2,0] 2 (.cons (aw Q ir Q iW (ab 1 Q) Q) (.cons (aG Q) .nil))
 refine WP.skip<|wr 8 192<|go 1<|Dv.bZ haa Q T Q<|fp haa Q T Q o0<|gl 1 [0]<|gr H fun gi H=>?_
 have had:(0:Int).toNat<(a0.fl++([a1]:List ai)).length:=bC gi
 refine Dv.kF Q T Q (ab 1 Q) Q fF ir iW gi.1 gi.2<|Dv.o7 (j:=((0:Int).toNat)) (f:=0) Q T Q (ab 1 Q) had ir Q iW (Nat.le_of_ble_eq_true Q)<|al Q T uC nofun fun bd=>sy 0 ?_
 refine .fin<|wr 9 288<|go 2<|Dv.bZ haa Q T Q<|fp haa Q T Q o0<|gl 1 [1]<|el H fun tc hae H=>cx 5 [2,0,1,3,4] (cL 159) (eV.c hae (p0_:=va)) nofun fun gj _=>?_
 refine Dv.bZ haa Q T Q<|fp haa Q T Q o0<|sx 2 Q T Q Q (cells_one bQ) q8 Q Q Q nofun ?_
 refine .fin<|wr 8 128<|go 1<|Dv.bZ haa Q T Q<|fp haa Q T Q CL<|gl 2 [2]<|Dv.bZ haa Q T Q<|fp haa Q T Q CL<|sy 2 ?_
 refine .fin<|wr 3 2<|gl 1 [1]<|sy 3 ?_
 refine go 1<|wg (jB.shut (p:=p0_) (m:=(⟨a0.dZ,tc,ax (a0.qG+1)⟩:jB)) (ga.1,gj) haa (pm 5 [2,0,1,3,4])) fun _ _=>?_
 cases H.out; exact rt i2 Q () 4 [1,2,3,0] 3 (.cons (aw Q ir Q iW (ab 2 Q) Q) (.cons (aG Q) .nil))
theorem gF.c {v0_0:OV} {b0_:Nat} (h:gF.f a0 a1=some r):Tr prog 160 [bO b0_,vS a1] [ay b0_ 265 [vS a0.cM,eq v0_0.1],kh Value.string aT.O v0_0.1 a0.ar] (γ:=Unit) (fun _=>True) (fun g=>kR [agg (Pos.enc r.1),vB r.2]) (fun g=>[ay b0_ 265 [vS a0.cM,eq v0_0.1],kh Value.string aT.O v0_0.1 a0.ar]):=by
 refine tf func160 h fun R0 F H=>?_
 refine wr 2 1<|al Q T s6 nofun fun ba=>go 1<|WP.seq<|wr 4 0<|go 2<|el H fun ta haa H=>o8 3 [1,2,0] (cL 144) (ew.c haa (b0_:=b0_) (v0_0:=v0_0)) ?_
 refine go 1<|ce H ?_ ?_ <;> intro H
 ·
  refine wr 3 2<|Dv.lx (qs:=[vI 0,vS eE]) (css:=[]) Q T yr FD IK Q T Q Q<|sy 0 ?_
  refine gq 1 ?_
  cases H.out; exact rt i2 Q () 3 [0,1,2] 1 (.cons (aw Q yr Q B1 (ab 0 Q) Q) (.cons (aG Q) .nil))
 refine WP.skip<|wr 13 2048<|gl 5 [1]<|vg (mq 2 Q) fun za hac=>?_
 refine Dv.Ep iV Q T Q (ab 0 Q) Q vT (dR U9) A7 (fun _=>Q)<|gr H fun ga H=>vg (qB hac Q ga (pm 4 [1,0,2,3])) fun _ _=>?_
 refine Dv.pA aT.nn Q T Q (ab 0 Q)<|vg (aT.iM 0 Q) fun gb had=>?_
 refine fp had Q T Q w9<|gl 2 [0]<|Dv.lx (qs:=[vI (((mget a0.ar a1).getD default).cI),vS a1]) (css:=[[vI (((mget a0.ar a1).getD default).cI)],[vS a1]]) Q T yr FD IK Q ⟨(cells_one (aj Q)),⟨(cells_one (aj Q)),T⟩⟩ Q Q<|sy 3 ?_
 refine go 1<|wg (aT.shut (p:=((mget (cY a0.ar za) a1).getD iV)) (m:=(mget a0.ar a1).getD default) gb had (pm 5 [0,1,2,3,4])) fun _ _=>?_
 refine wg (oa hac Q ga (pm 5 [0,1,2,3,4])) fun _ _=>?_
 refine wg (iy hac Q (pm 4 [1,0,2,3])) fun _ _=>?_
 cases H.out; exact rt i2 Q () 3 [1,2,0] 1 (.cons (aw Q yr Q B1 (ab 1 Q) Q) (.cons (aG Q) .nil))
theorem fk.c {v0_0:OV} {b0_:Nat} (h:fk.f a0 a1 a2=some r):Tr prog 99 [bO b0_,vS a1,vS a2] [ay b0_ 186 [eq v0_0.1],kh Value.string bf.O v0_0.1 a0.bx] (γ:=Unit) (fun _=>True) (fun g=>kR [agg (Pos.enc r.1),vB r.2]) (fun g=>[ay b0_ 186 [eq v0_0.1],kh Value.string bf.O v0_0.1 a0.bx]):=by
 refine tf func99 h fun R0 F H=>?_
 refine wr 2 1<|al Q T s6 nofun fun ba=>go 1<|wr 9 132<|go 2<|el H fun ta haa H=>cx 3 [1,2,0] (cL 88) (aO.c haa (b0_:=b0_) (v0_0:=v0_0)) nofun fun va _=>?_
 refine go 1<|vg (bf.iM 2 Q) fun ga hac=>?_
 refine el H fun tc had H=>o8 5 [0,1,2,3,4] (cL 160) (Tr.jY (gF.c had (b0_:=ga.1) (v0_0:=ga.2)) (.cons (iD hac) (.cons cG .nil))) ?_
 refine eD Q T Q Q<|eD Q T Q Q<|sy 4 ?_
 refine go 1<|wg (bf.shut (p:=va) (m:=ta) (ga.1,ga.2) hac (pm 5 [0,1,2,3,4])) fun _ _=>?_
 refine wg (fu (aO.r haa) (pm 4 [2,0,1,3])) fun _ _=>?_
 cases H.out; exact rt i2 Q () 3 [2,1,0] 1 (.cons (aw Q yr Q B1 (ab 2 Q) Q) (.cons (aG Q) .nil))
theorem cmp_isNaN_string.c (h:cmp_isNaN_string.f a0=some r):Pt prog 132 [vS a0] (vB r):=by
 refine pf func132 h fun R0 F H=>?_
 refine so<|sp ?_
 cases H.out; exact ek 0
theorem aD.c (h:aD.f a0 a1=some r):Pt prog 65 [vS a0,vS a1] (vI r):=by
 refine pf func65 h fun R0 F H=>?_
 refine so<|wr 3 0<|go 1<|el H fun ta haa H=>cl Q (cL 132) Q (cmp_isNaN_string.c haa)<|go 1<|wr 3 0<|go 1<|el H fun tc hac H=>cl Q (cL 132) Q (cmp_isNaN_string.c hac)<|go 1<|WP.seq<|so<|ce H ?_ ?_ <;> intro H
 ·
  refine WP.seq<|so<|ce H ?_ ?_ <;> intro H
  ·
   refine sp ?_
   cases H.out; exact ek 0
  refine WP.skip<|sp ?_
  cases H.out; exact ek 0
 refine WP.skip<|WP.seq<|so<|ce H ?_ ?_ <;> intro H
 ·
  refine sp ?_
  cases H.out; exact ek 0
 refine WP.skip<|WP.seq<|so<|ce H ?_ ?_ <;> intro H
 ·
  refine sp ?_
  cases H.out; exact ek 0
 refine WP.skip<|WP.seq<|so<|ce H ?_ ?_ <;> intro H
 ·
  refine sp ?_
  cases H.out; exact ek 0
 refine WP.skip<|sp ?_
 cases H.out; exact ek 0
theorem bE.c (h:bE.f k a0=some r):Pt prog 128 [sl (bp .i64) a0] (vI r):=by
 refine pf func128 h fun R0 F H=>?_
 refine so<|so<|WP.kN H id (fun pa=>[(3,vI 0)]) (fun pa=>F) (fun pa H=>?_) (fun H=>?_)
 ·
  refine sp ?_
  cases H.out; exact ek 0
 refine wr 3 0<|go 1<|Dv.jN Q T Q qV<|go 1<|WP.block<|ws 0 [] 0 ?_
 refine lp (fun j_ (pc:Int)=>bE.l0 k a0 j_ pc) 0 H (fun pc=>[(3,vI 0),(6,sl (bp .i64) a0),(7,vI (a0.length:Int)),(8,vI pc)]) (fun pc=>F) ?_
 rintro j_ xa H
 rcases j_ with _ | ja
 ·
  exact (aZ.no H).elim
 try dsimp only at H
 rw [bE.l0] at H
 refine so<|WP.seq<|ce H ?_ ?_ <;> intro H
 rotate_left
 ·
  refine WP.exit ?_
  have H:=H.out
  exact jn (xa,decide (xa<(a0.length:Int))) H
 refine WP.skip<|WP.seq<|WP.block<|wr 3 0<|gr H fun ga H=>Dv.kg Q T Q Q qV U3 c3 ga.1 ga.2<|lM Q T Q Gz Q<|go 1<|so<|ce H ?_ ?_ <;> intro H
 rotate_left
 ·
  exact WP.skip<|rg 2 0<|go 2<|bk ja (ax (xa+1)) H
 refine sp ?_
 have H:=H.fW
 cases H.out; exact ek 0
theorem cmp_isNaN_int.c (h:cmp_isNaN_int.f a0=some r):Pt prog 193 [vI a0] (vB r):=by
 refine pf func193 h fun R0 F H=>?_
 refine so<|sp ?_
 cases H.out; exact ek 0
theorem cF.c (h:cF.f a0 a1=some r):Pt prog 129 [vI a0,vI a1] (vI r):=by
 refine pf func129 h fun R0 F H=>?_
 refine so<|wr 3 0<|go 1<|el H fun ta haa H=>cl Q (cL 193) Q (cmp_isNaN_int.c haa)<|go 1<|wr 3 0<|go 1<|el H fun tc hac H=>cl Q (cL 193) Q (cmp_isNaN_int.c hac)<|go 1<|WP.seq<|so<|ce H ?_ ?_ <;> intro H
 ·
  refine WP.seq<|so<|ce H ?_ ?_ <;> intro H
  ·
   refine sp ?_
   cases H.out; exact ek 0
  refine WP.skip<|sp ?_
  cases H.out; exact ek 0
 refine WP.skip<|WP.seq<|so<|ce H ?_ ?_ <;> intro H
 ·
  refine sp ?_
  cases H.out; exact ek 0
 refine WP.skip<|WP.seq<|so<|ce H ?_ ?_ <;> intro H
 ·
  refine sp ?_
  cases H.out; exact ek 0
 refine WP.skip<|WP.seq<|so<|ce H ?_ ?_ <;> intro H
 ·
  refine sp ?_
  cases H.out; exact ek 0
 refine WP.skip<|sp ?_
 cases H.out; exact ek 0
theorem im.c (h:im.f k a0 a1=some r):Pt prog 161 [agg (Pos.enc a0),agg (Pos.enc a1)] (vI r):=by
 refine pf func161 h fun R0 F H=>?_
 refine wr 3 3<|Dv.box Q T Q cA nofun fun ba=>Dv.box Q T Q cA nofun fun bc=>go 1<|wd mX 13 0<|gl 4 [1,0]<|el H fun ta haa H=>cl Q (cL 129) Q (cF.c haa)<|gl 4 [1,0]<|el H fun tc hac H=>cl Q (cL 65) Q (aD.c hac)<|Dv.lit (bp .i64) ([ta,tc]:List Int) (css:=[[vI ta],[vI tc]]) Q T qV U3 c3 z3 Q dc dc Q ⟨(cells_one (aj Q)),⟨(cells_one (aj Q)),T⟩⟩ Q Q Q<|el H fun te had H=>cl Q (cL 128) Q (bE.c had)<|gq 1 ?_
 cases H.out; exact ek 2
theorem fJ.c {p0_:OV} (h:fJ.f k a0 a1 a2=some r):Tr prog 100 [eq p0_.1,agg (bz.enc a1),agg (Pos.enc a2)] [jT.O p0_ a0] (γ:=Unit) (fun _=>True) (fun g=>vB r.1) (fun g=>[jT.O p0_ r.2]):=by
 refine tf func100 h fun R0 F H=>?_
 refine wr 3 3<|Dv.box Q T Q cA nofun fun ba=>Dv.box Q T Q cA nofun fun bc=>go 1<|WP.seq<|wg (jT.iM 2 Q) fun ga haa=>?_
 refine dg mX 12 1536<|go 1<|Dv.bZ haa Q T Q<|fp haa Q T Q tO<|gl 2 [0,3]<|Dv.mlkq (⟨0,eE⟩:Pos) Q T Q (ab 1 Q) Q (bz.kq a1) Gl CQ IK (fun _=>⟨_,Q,Cs.eqz Q⟩)<|go 1<|eD Q T Q Q<|eD Q T Q Q<|al Q T s6 pD fun bd=>sx 0 Q T Q Q cA Eu Q Q Q pD ?_
 refine go 1<|WP.seq<|wr 7 0<|gp 2 ?_
 cases cc:(mget a0.iE a1).isSome
 ·
  have H:=H.cf cc
  refine go 5<|WP.cond Q nofun (fun _=>?_)
  refine WP.skip<|wd mX 7 64<|go 1<|Dv.bZ haa Q T Q<|fp haa Q T Q tO<|gl 3 [1,4,3]<|Dv.mupq (jj:=2) a2 Q T Q Q Q (bz.kq a1) Q Gl CQ (fun _=>fh kr)<|.fin<|so<|wg (jT.shut (p:=p0_) (m:=(⟨mput a0.iE a1 a2⟩:jT)) (ga.1,ga.2) haa (pm 5 [1,2,0,3,4])) fun _ _=>?_
  cases H.out; exact et () 4 [1,2,3,0] 3
 have H:=H.ct cc
 refine gl 2 [0,3]<|el H fun ta hac H=>Dv.call Q (gg Q) (cL 161) Q (im.c hac)<|go 2<|ce H ?_ ?_ <;> intro H
 ·
  refine so<|wg (jT.shut (p:=p0_) (m:=a0) (ga.1,ga.2) haa (pm 5 [1,2,0,3,4])) fun _ _=>?_
  cases H.out; exact et () 4 [1,2,3,0] 3
 refine WP.skip<|wd mX 7 64<|go 1<|Dv.bZ haa Q T Q<|fp haa Q T Q tO<|gl 3 [1,4,3]<|Dv.mupq (jj:=2) a2 Q T Q Q Q (bz.kq a1) Q Gl CQ (fun _=>fh kr)<|.fin<|so<|wg (jT.shut (p:=p0_) (m:=(⟨mput a0.iE a1 a2⟩:jT)) (ga.1,ga.2) haa (pm 5 [1,2,0,3,4])) fun _ _=>?_
 cases H.out; exact et () 4 [1,2,3,0] 3
theorem pG.c (h:pG.f a0=some r):Pt prog 101 [agg (ai.enc a0)] (agg (bz.enc r)):=by
 refine pf func101 h fun R0 F H=>?_
 refine wr 2 3<|Dv.box Q T Q cA nofun fun ba=>al Q T zc89 nofun fun bc=>.fin<|wr 10 512<|gl 8 [1,1,1,1]<|Dv.lx (qs:=[vS a0.aa,vS a0.ak,vS a0.ag,vB a0.au]) (css:=[[vS a0.aa],[vS a0.ak],[vS a0.ag],[vB a0.au]]) Q T J2 IA z89 Q ⟨(cells_one (aj Q)),⟨(cells_one (aj Q)),⟨(cells_one (aj Q)),⟨(cells_one (aj Q)),T⟩⟩⟩⟩ Q Q<|sy 0 ?_
 refine .fin ?_
 cases H.out; exact r2 i2 Q (.cons (aw Q J2 Q c89 (ab 0 Q) Q) .nil)
theorem ie.c {p0_ p1_:OV} (h:ie.f k a0 a1 a2=some r):Tr prog 39 [eq p0_.1,eq p1_.1,agg (ai.enc a2)] [gW.O p0_ a0,aH.O p1_ a1] (γ:=Unit) (fun _=>True) (fun g=>kR [vB r.1,vI r.2.1]) (fun g=>[gW.O p0_ r.2.2,aH.O p1_ a1]):=by
 refine tf func39 h fun R0 F H=>?_
 refine wr 3 1<|Dv.box Q T Q cA nofun fun ba=>go 2<|WP.seq<|wr 8 0<|kW 4 [0] ?_
 cases cc:(a2.aE != 1)
 rotate_left
 ·
  have H:=H.ct cc
  refine go 4<|WP.cond Q (fun _=>?_) nofun
  refine sp ?_
  cases H.out; exact et () 3 [0,1,2] 1
 have H:=H.cf cc
 refine gl 1 [0]<|el H fun ta haa H=>Dv.call Q (gg Q) (cL 96) Q (eO.c haa)<|go 2<|ce H ?_ ?_ <;> intro H
 ·
  refine sp ?_
  cases H.out; exact et () 3 [0,1,2] 1
 refine WP.skip<|WP.seq<|wr 9 0<|gl 7 [0,0,0]<|vg (aH.iM 2 Q) fun ga hac=>?_
 refine el H fun tc had H=>o8 4 [0,1,2,3] (cL 97) (Tr.jY (iN.c had (b0_:=ga.1) (v0_0:=ga.2)) (.cons (iD hac) (.cons cG (.cons cG (.cons cG .nil))))) ?_
 refine go 1<|so<|WP.block<|so<|ce H ?_ ?_ <;> intro H
 ·
  refine WP.seq<|wg (gW.iM 3 Q) fun gb hae=>?_
  refine dg mX 6 32<|go 1<|Dv.bZ hae Q T Q<|fp hae Q T Q HV<|gl 2 [0,5]<|el H fun te haf H=>cx 6 [2,0,1,3,4,5] (cL 98) (jK.c haf (p0_:=gb.2.2)) pC fun _ _=>?_
  refine .fin<|so<|wg (aH.shut (p:=p1_) (m:=a1) (ga.1,ga.2) hac (pm 6 [3,4,0,1,2,5])) fun _ _=>?_
  refine wg (gW.shut (p:=p0_) (m:=(⟨a0.p5,te.2.2⟩:gW)) (gb.1,gb.2.1,gb.2.2) hae (pm 5 [2,3,1,0,4])) fun _ _=>?_
  cases H.out; exact et () 3 [2,0,1] 1
 refine so<|ce H ?_ ?_ <;> intro H
 rotate_left
 ·
  refine so<|wg (aH.shut (p:=p1_) (m:=a1) (ga.1,ga.2) hac (pm 4 [0,1,2,3])) fun _ _=>?_
  cases H.out; exact et () 3 [1,2,0] 1
 refine WP.skip<|wr 12 1536<|gl 5 [2,2]<|el H fun tg hag H=>o8 4 [0,1,2,3] (cL 99) (Tr.jY (fk.c hag (b0_:=ga.1) (v0_0:=ga.2)) (.cons (iD hac) (.cons cG (.cons cG .nil)))) ?_
 refine go 1<|eD Q T Q Q<|eD Q T Q Q<|al Q T s6 nofun fun bc=>sy 0 ?_
 refine go 1<|WP.seq<|wg (gW.iM 4 Q) fun gi hah=>?_
 refine dg mX 10 128<|go 1<|Dv.bZ hah Q T Q<|fp hah Q T Q Ce<|gl 2 [0,6]<|el H fun tj hai H=>cl Q (cL 101) Q (pG.c hai)<|gl 1 [3]<|el H fun tm haj H=>cx 7 [1,0,2,3,4,5,6] (cL 100) (fJ.c haj (p0_:=gi.2.1)) pC fun _ _=>?_
 refine go 2<|wg (aH.shut (p:=p1_) (m:=a1) (ga.1,ga.2) hac (pm 7 [4,5,0,1,2,3,6])) fun _ _=>?_
 refine wg (gW.shut (p:=p0_) (m:=(⟨tm.2,a0.pP⟩:gW)) (gi.1,gi.2.1,gi.2.2) hah (pm 6 [2,1,3,0,4,5])) fun _ _=>?_
 cases H.out; exact et () 4 [2,3,0,1] 2
theorem strings_Join.c {xs:List BA} {sep r:BA} (h:strings_Join.f xs sep=some r):Tr prog 102 [sl aC xs,vS sep] [lax] (γ:=Unit) (fun _=>True) (fun _=>vS r) (fun _=>[lax]):=Tr.Db fun R F w us hu hs=>by
  obtain ⟨⟨h1,h2⟩,H⟩:=aZ.aq (aZ.of h)
  obtain rfl:=aZ.out H
  cases hu with
  | cons ha hu=>cases hu with
    | cons hb hu=>
      cases hu
      simp only [ee] at hb
      subst hb
      rcases Ay ha hs with ⟨a,c,rfl,rfl⟩ | ⟨b,off,c,rfl,hl,hlt,hc⟩
      · exact ⟨_,Q,(Tryz.strings_Join_none a c sep w).mono fun e w' ⟨he,hw⟩=>⟨he,hw ▸ Go.RowKit.Below.refl _ _⟩⟩
      · exact ⟨_,Q,Tryz.strings_Join b off c xs sep w hc hlt h1 hl h2⟩
theorem iz.c (h:iz.f a0=some r):Tr prog 41 [agg (bz.enc a0)] [lax] (γ:=Unit) (fun _=>True) (fun g=>vS r) (fun g=>[lax]):=by
 refine tf func41 h fun R0 F H=>?_
 refine wr 2 1<|Dv.box Q T Q cA nofun fun ba=>go 1<|so<|WP.seq<|sf [0]<|ce H ?_ ?_ <;> intro H
 rotate_left
 ·
  refine WP.skip<|wr 10 0<|gl 7 [0,0,0]<|Dv.lit aC ([(⟨#[109]⟩:BA),a0.aa,a0.ak,a0.ag,(⟨#[48]⟩:BA)]:List BA) (css:=[[vS (⟨#[109]⟩:BA)],[vS a0.aa],[vS a0.ak],[vS a0.ag],[vS (⟨#[48]⟩:BA)]]) Q T eh U9 c9 z9 Q dc dc Q ⟨(cells_one (aj Q)),⟨(cells_one (aj Q)),⟨(cells_one (aj Q)),⟨(cells_one (aj Q)),⟨(cells_one (aj Q)),T⟩⟩⟩⟩⟩ Q Q Q<|el H fun ta haa H=>o8 2 [1,0] (cL 102) (strings_Join.c haa) ?_
  refine gq 1 ?_
  cases H.out; exact et () 2 [0,1] 1
 refine rg 1 0<|go 1<|wr 10 0<|gl 7 [0,0,0]<|Dv.lit aC ([(⟨#[109]⟩:BA),a0.aa,a0.ak,a0.ag,(⟨#[49]⟩:BA)]:List BA) (css:=[[vS (⟨#[109]⟩:BA)],[vS a0.aa],[vS a0.ak],[vS a0.ag],[vS (⟨#[49]⟩:BA)]]) Q T eh U9 c9 z9 Q dc dc Q ⟨(cells_one (aj Q)),⟨(cells_one (aj Q)),⟨(cells_one (aj Q)),⟨(cells_one (aj Q)),⟨(cells_one (aj Q)),T⟩⟩⟩⟩⟩ Q Q Q<|el H fun tc hac H=>o8 2 [1,0] (cL 102) (strings_Join.c hac) ?_
 refine gq 1 ?_
 cases H.out; exact et () 2 [0,1] 1
theorem mn.c (h:mn.f k a0=some r):Pt prog 103 [agg (ai.enc a0)] (vB r):=by
 refine pf func103 h fun R0 F H=>?_
 refine wr 2 1<|Dv.box Q T Q cA nofun fun ba=>go 1<|wr 3 0<|gl 1 [0]<|el H fun ta haa H=>cl Q (cL 92) Q (fH.c haa)<|go 1<|wr 7 0<|gp 2 ?_
 cases cc:ta
 ·
  have H:=H.cf cc
  refine gq 5 ?_
  cases H.out; exact ek 1
 have H:=H.ct cc
 refine FW 5 [0] ?_
 cases H.out; exact ek 1
theorem cV.c:∀ (k:Nat) {a0:Int} {r:(List Int)} (h:cV.f k a0=some r),Tr prog 229 [vI a0] [] (γ:=OV) (fun _=>True) (fun g=>eq g.1) (fun g=>[own (bp .u8) g.1 r])
  | 0,_,_,h=>by cases h
  | k+1,a0,r,h=>by
    rw [cV.f] at h
    refine tb func229 ntmps229 h fun R0 F H=>?_
    refine so<|WP.iQ H id (fun pa=>[(0,vI pa)]) (fun pa=>F) (fun pa H=>?_) (fun H=>?_)
    rotate_left
    ·
     refine so<|ce H ?_ ?_ <;> intro H
     rotate_left
     ·
      refine WP.skip ?_
      have H:=H.out
      exact jn a0 H
     refine rg 1 0<|gq 1 ?_
     have H:=H.out
     exact jn 0 H
    refine WP.seq<|so<|ce H ?_ ?_ <;> intro H
    ·
     refine wr 4 4<|go 1<|Dv.Hg Q T Q U3 U5<|Dv.lito (bp .u8) ([IntKind.u8.wrap (pa)]:List Int) (css:=[[eq (.int .u8 (IntKind.u8.wrap (pa)))]]) Q T jA U5 c5 z5 Q dc dc Q ⟨(cells_one (aj Q)),T⟩ Q Q Q nofun (fun va=>?_)
     refine gq 1 ?_
     cases H.out; exact et va 1 [0] 0
    refine WP.skip<|wr 6 16<|go 1<|n9 Q Q Q (qo dc)<|go 1<|Dv.Hg Q T Q U3 U5<|Dv.lito (bp .u8) ([IntKind.u8.wrap (ax (128+(pa.tmod 128)))]:List Int) (css:=[[eq (.int .u8 (IntKind.u8.wrap (ax (128+(pa.tmod 128)))))]]) Q T jA U5 c5 z5 Q dc dc Q ⟨(cells_one (aj Q)),T⟩ Q Q Q nofun (fun vb=>?_)
    refine go 1<|wr 6 24<|go 2<|n9 Q Q Q (nM dc)<|el H fun ta haa H=>cx 1 [0] (cL 229) (cV.c k haa) nofun fun ga _=>?_
    refine gr H fun gb H=>ap (bp .u8) 1 ta (mV (ab 0 Q)) jA (.inr ⟨_,jA⟩) rG gb nofun fun vd=>?_
    refine gq 1 ?_
    cases H.out; exact et vd 2 [0,1] 1
theorem jH.c (h:jH.f k a0=some r):Tr prog 230 [vS a0] [] (γ:=OV) (fun _=>True) (fun g=>eq g.1) (fun g=>[own (bp .u8) g.1 r]):=by
 refine tf func230 h fun R0 F H=>?_
 refine so<|wr 6 20<|go 1<|Dv.lens Q T Q U9<|el H fun ta haa H=>cx 0 [] (cL 229) (cV.c _ haa) nofun fun ga _=>?_
 refine go 1<|gr H fun gb H=>ap (bp .u8) 0 (mw a0) CK jA (.inl U9) rG gb nofun fun va=>?_
 refine gq 1 ?_
 cases H.out; exact et va 1 [0] 0
theorem pR.c (h:pR.f a0=some r):Pt prog 231 [vB a0] (sl (bp .u8) r):=by
 refine pf func231 h fun R0 F H=>?_
 refine so<|WP.seq<|so<|ce H ?_ ?_ <;> intro H
 ·
  refine wr 2 0<|Dv.lit (bp .u8) ([1]:List Int) (css:=[[eq (.int .u8 1)]]) Q T jA U5 c5 z5 Q dc dc Q ⟨(cells_one (aj Q)),T⟩ Q Q Q<|gq 1 ?_
  cases H.out; exact ek 0
 refine WP.skip<|wr 2 0<|Dv.lit (bp .u8) ([0]:List Int) (css:=[[eq (.int .u8 0)]]) Q T jA U5 c5 z5 Q dc dc Q ⟨(cells_one (aj Q)),T⟩ Q Q Q<|gq 1 ?_
 cases H.out; exact ek 0
theorem kZ.c (h:kZ.f k a0=some r):Tr prog 165 [agg (ai.enc a0)] [] (γ:=OV) (fun _=>True) (fun g=>eq g.1) (fun g=>[own (bp .u8) g.1 r]):=by
 refine tf func165 h fun R0 F H=>?_
 refine wr 2 1<|Dv.box Q T Q cA nofun fun ba=>go 1<|wr 4 4<|gl 2 [0]<|el H fun ta haa H=>cx 1 [0] (cL 229) (cV.c _ haa) nofun fun ga _=>?_
 refine go 1<|wr 6 24<|gl 3 [1]<|el H fun tc hac H=>cx 2 [0,1] (cL 230) (jH.c hac) nofun fun gb _=>?_
 refine gr H fun gi H=>ap (bp .u8) 1 tc (mV (ab 0 Q)) jA (.inr ⟨_,jA⟩) rG gi nofun fun va=>?_
 refine go 1<|wr 6 24<|gl 3 [2]<|el H fun te had H=>cx 3 [0,1,2] (cL 230) (jH.c had) nofun fun gj _=>?_
 refine gr H fun gk H=>ap (bp .u8) 2 te (mV (ab 0 Q)) jA (.inr ⟨_,jA⟩) rG gk nofun fun vb=>?_
 refine go 1<|wr 6 24<|gl 3 [3]<|el H fun tg hae H=>cx 4 [0,1,2,3] (cL 230) (jH.c hae) nofun fun gm _=>?_
 refine gr H fun gn H=>ap (bp .u8) 3 tg (mV (ab 0 Q)) jA (.inr ⟨_,jA⟩) rG gn nofun fun vd=>?_
 refine go 1<|wr 6 24<|gl 3 [4]<|el H fun tj haf H=>cx 5 [0,1,2,3,4] (cL 230) (jH.c haf) nofun fun gu _=>?_
 refine gr H fun gv H=>ap (bp .u8) 4 tj (mV (ab 0 Q)) jA (.inr ⟨_,jA⟩) rG gv nofun fun ve=>?_
 refine go 1<|wr 6 16<|gl 3 [5]<|el H fun tm hag H=>cl Q (cL 231) Q (pR.c hag)<|gr H fun gw H=>ap (bp .u8) 4 tm bY jA (.inr ⟨_,jA⟩) rG gw nofun fun vh=>?_
 refine go 1<|wr 6 24<|gl 3 [5]<|el H fun tn hah H=>cx 6 [0,1,2,3,4,5] (cL 229) (cV.c _ hah) nofun fun gy _=>?_
 refine gr H fun gz H=>ap (bp .u8) 5 tn (mV (ab 0 Q)) jA (.inr ⟨_,jA⟩) rG gz nofun fun vi=>?_
 refine go 1<|wr 6 24<|gl 3 [6]<|el H fun tp hai H=>cx 7 [0,1,2,3,4,5,6] (cL 229) (cV.c _ hai) nofun fun gaa _=>?_
 refine gr H fun gab H=>ap (bp .u8) 6 tp (mV (ab 0 Q)) jA (.inr ⟨_,jA⟩) rG gab nofun fun vj=>?_
 refine go 1<|wr 6 24<|gl 3 [7]<|el H fun tq haj H=>cx 8 [0,1,2,3,4,5,6,7] (cL 229) (cV.c _ haj) nofun fun gac _=>?_
 refine gr H fun gad H=>ap (bp .u8) 7 tq (mV (ab 0 Q)) jA (.inr ⟨_,jA⟩) rG gad nofun fun vk=>?_
 refine go 1<|wr 6 24<|gl 3 [8]<|el H fun tu hak H=>cx 9 [0,1,2,3,4,5,6,7,8] (cL 229) (cV.c _ hak) nofun fun gae _=>?_
 refine gr H fun gaf H=>ap (bp .u8) 8 tu (mV (ab 0 Q)) jA (.inr ⟨_,jA⟩) rG gaf nofun fun vl=>?_
 refine gq 1 ?_
 cases H.out; exact et vl 10 [0,1,2,3,4,5,6,7,9,8] 9
theorem iX.c (h:iX.f k a0 a1=some r):Pt prog 104 [agg (ai.enc a0),agg (ai.enc a1)] (vI r):=by
 refine pf func104 h fun R0 F H=>?_
 refine wr 3 3<|Dv.box Q T Q cA nofun fun ba=>Dv.box Q T Q cA nofun fun bc=>go 1<|WP.seq<|sf [1,0]<|ce H ?_ ?_ <;> intro H
 ·
  refine sp ?_
  cases H.out; exact ek 2
 refine WP.skip<|WP.seq<|sf [1,0]<|ce H ?_ ?_ <;> intro H
 ·
  refine sp ?_
  cases H.out; exact ek 2
 refine WP.skip<|wr 4 2<|gl 1 [1]<|el H fun ta haa H=>cx 2 [0,1] (cL 165) (kZ.c haa) nofun fun ga _=>?_
 refine Dv.gh (eF (E':=[(0,agg (ai.enc a0)),(1,agg (ai.enc a1)),(2,bO ba),(3,bO bc),(4,vI 0),(11,vB (decide (a0.aX<a1.aX))),(16,vB (decide (a1.aX<a0.aX))),(18,sl (bp .u8) ta)]) (l':=[ay bc 52 (ai.enc a1),ay ba 52 (ai.enc a0)]++F) 0 Q (ah Q ao (ah Q ao (ah Q ao (ah Q ao (ah Q ao (ah Q ao (ah Q ao (ah Q dm cT)))))))) (bP (.cons av (.cons av .nil)) fun _=>av)) (fun _ _=>?_)
 refine Dv.JJ Q T Q jA U5 U9<|go 1<|wr 4 2<|gl 1 [0]<|el H fun tc hac H=>cx 2 [0,1] (cL 165) (kZ.c hac) nofun fun gb _=>?_
 refine Dv.gh (eF (E':=[(0,agg (ai.enc a0)),(1,agg (ai.enc a1)),(2,bO ba),(3,bO bc),(4,vI 0),(5,vS (fX ta)),(11,vB (decide (a0.aX<a1.aX))),(16,vB (decide (a1.aX<a0.aX))),(21,sl (bp .u8) tc)]) (l':=[ay bc 52 (ai.enc a1),ay ba 52 (ai.enc a0)]++F) 0 Q (ah Q ao (ah Q ao (ah Q ao (ah Q ao (ah Q ao (ah Q ao (ah Q ao (ah Q ao (ah Q dm cT))))))))) (bP (.cons av (.cons av .nil)) fun _=>av)) (fun _ _=>?_)
 refine Dv.JJ Q T Q jA U5 U9<|go 1<|WP.seq<|so<|ce H ?_ ?_ <;> intro H
 ·
  refine sp ?_
  cases H.out; exact ek 2
 refine WP.skip<|WP.seq<|so<|ce H ?_ ?_ <;> intro H
 ·
  refine sp ?_
  cases H.out; exact ek 2
 refine WP.skip<|sp ?_
 cases H.out; exact ek 2
theorem cU.c (h:cU.f k a0 a1=some r):Pt prog 42 [agg (jO.enc a0),agg (ai.enc a1)] (kR [agg (jO.enc r.1),vB r.2.1,vI r.2.2]):=by
 refine pf func42 h fun R0 F H=>?_
 refine wr 5 7<|Dv.box Q T Q cA nofun fun ba=>Dv.box Q T Q cA nofun fun bc=>al Q T J1 nofun fun bd=>go 2<|wr 3 0<|gl 1 [1]<|el H fun ta haa H=>cl Q (cL 103) Q (mn.c haa)<|go 1<|WP.seq<|wr 7 0<|kW 4 [1] ?_
 cases cc:(a1.aE != 2)
 rotate_left
 ·
  have H:=H.ct cc
  refine go 3<|WP.cond Q (fun _=>?_) nofun
  refine wr 4 2<|gl 1 [2]<|sy 0 ?_
  refine gq 2 ?_
  cases H.out; exact r3 i2 Q (.cons (aw Q U37 Q c37 (ab 0 Q) Q) (.cons (aG Q) (.cons (aG Q) .nil)))
 have H:=H.cf cc
 refine go 3<|ce H ?_ ?_ <;> intro H
 ·
  refine wr 4 2<|gl 1 [2]<|sy 0 ?_
  refine gq 2 ?_
  cases H.out; exact r3 i2 Q (.cons (aw Q U37 Q c37 (ab 0 Q) Q) (.cons (aG Q) (.cons (aG Q) .nil)))
 refine WP.skip<|wr 1 1<|al Q T J1 nofun fun be=>.fin<|so<|WP.kN H (fun qh:(Bool×Int×Bool×(List ai)×(List Bool))×OV×OV=>qh.1) (fun qh=>[(3,bO bc),(4,bO bd),(8,bO be),(9,vB qh.1.1)]) (fun qh=>[ay be 37 [eq qh.2.1.1,eq qh.2.2.1],ay bd 37 [dY,dY],ay bc 52 (ai.enc a1),ay ba 37 (jO.enc a0),own ai.K qh.2.1.1 qh.1.2.2.2.1,own bR qh.2.2.1 qh.1.2.2.2.2]++F) (fun qh H=>?_) (fun H=>?_)
 ·
  obtain ⟨pa,va,vb⟩:=qh
  refine WP.seq<|so<|ce H ?_ ?_ <;> intro H
  rotate_left
  ·
   refine WP.skip<|wr 4 2<|gl 1 [0]<|sy 1 ?_
   refine go 2<|WP.gh (eF (E':=[(4,bO bd),(5,vB true),(6,vI 0)]) (l':=[ay be 37 [sl ai.K pa.2.2.2.1,eq vb.1],ay bd 37 [sl ai.K pa.2.2.2.1,eq vb.1],ay bc 52 (ai.enc a1),ay ba 37 (jO.enc a0),own bR vb.1 pa.2.2.2.2]++F) 4 Q (ah Q ao (ah Q ao (ah Q ao cT))) (bP (.cons (cJ (.cons dm (.cons ao .nil))) (.cons (cJ (.cons dm (.cons ao .nil))) (.cons av (.cons av (.cons av .nil))))) fun _=>av)) (fun _ _=>?_)
   refine WP.gh (eF (E':=[(4,bO bd),(5,vB true),(6,vI 0)]) (l':=[ay be 37 [sl ai.K pa.2.2.2.1,sl bR pa.2.2.2.2],ay bd 37 [sl ai.K pa.2.2.2.1,sl bR pa.2.2.2.2],ay bc 52 (ai.enc a1),ay ba 37 (jO.enc a0)]++F) 4 Q (ah Q ao (ah Q ao (ah Q ao cT))) (bP (.cons (cJ (.cons ao (.cons dm .nil))) (.cons (cJ (.cons ao (.cons dm .nil))) (.cons av (.cons av .nil)))) fun _=>av)) (fun _ _=>?_)
   cases H.out; exact r4 i2 Q (.cons (aw Q U37 Q c37 (ab 1 Q) Q) (.cons (aG Q) (.cons (aG Q) .nil)))
  refine wr 7 80<|gl 3 [0,2]<|Dv.lit ai.K ([a1]:List ai) (css:=[ai.enc a1]) Q T fF ir iW uW Q dc dc Q ⟨(bn (ai.K.one _)),T⟩ Q Q Q<|gr H fun ga H=>ap ai.K 4 ([a1]:List ai) bY fF (.inr ⟨_,fF⟩) nt ga nofun fun vd=>?_
  refine go 1<|sx 0 Q T Q Q (cells_one bQ) q8 Q Q Q nofun ?_
  refine .fin<|rg 6 40<|gl 2 [0]<|Dv.lit bR ([false]:List Bool) (css:=[[vB false]]) Q T sg U4 c4 z4 Q dc dc Q ⟨(cells_one (aj Q)),T⟩ Q Q Q<|gr H fun gb H=>ap bR 5 ([false]:List Bool) bY sg (.inr ⟨_,sg⟩) Aa gb nofun fun ve=>?_
  refine go 1<|sx 0 Q T Q Q (cells_one bQ) AA Q Q Q nofun ?_
  refine .fin<|wr 4 2<|gl 1 [0]<|sy 1 ?_
  refine go 2<|WP.gh (eF (E':=[(4,bO bd),(5,vB true),(6,vI 0)]) (l':=[ay be 37 [sl ai.K (pa.2.2.2.1++([a1]:List ai)),eq ve.1],ay bd 37 [sl ai.K (pa.2.2.2.1++([a1]:List ai)),eq ve.1],ay bc 52 (ai.enc a1),ay ba 37 (jO.enc a0),own bR ve.1 (pa.2.2.2.2++([false]:List Bool))]++F) 4 Q (ah Q ao (ah Q ao (ah Q ao cT))) (bP (.cons (cJ (.cons dm (.cons ao .nil))) (.cons (cJ (.cons dm (.cons ao .nil))) (.cons av (.cons av (.cons av .nil))))) fun _=>av)) (fun _ _=>?_)
  refine WP.gh (eF (E':=[(4,bO bd),(5,vB true),(6,vI 0)]) (l':=[ay be 37 [sl ai.K (pa.2.2.2.1++([a1]:List ai)),sl bR (pa.2.2.2.2++([false]:List Bool))],ay bd 37 [sl ai.K (pa.2.2.2.1++([a1]:List ai)),sl bR (pa.2.2.2.2++([false]:List Bool))],ay bc 52 (ai.enc a1),ay ba 37 (jO.enc a0)]++F) 4 Q (ah Q ao (ah Q ao (ah Q ao cT))) (bP (.cons (cJ (.cons ao (.cons dm .nil))) (.cons (cJ (.cons ao (.cons dm .nil))) (.cons av (.cons av .nil)))) fun _=>av)) (fun _ _=>?_)
  cases H.out; exact r4 i2 Q (.cons (aw Q U37 Q c37 (ab 1 Q) Q) (.cons (aG Q) (.cons (aG Q) .nil)))
 refine so<|WP.block<|wg (eX ai.K none) fun _ _=>?_
 refine wg (eX bR none) fun _ _=>?_
 refine ws 6 [2,3,4,5,1,0] 0 ?_
 refine lp (fun j_ (pc:Bool×Int×(List ai)×(List Bool)×OV×OV)=>cU.l0 k a0 a1 j_ pc.1 pc.2.1 pc.2.2.1 pc.2.2.2.1) (false,0,([]:List ai),([]:List Bool),l6,Fx) H (fun pc=>[(2,bO ba),(3,bO bc),(4,bO bd),(8,bO be),(9,vB pc.1),(10,vI pc.2.1)]) (fun pc=>[ay be 37 [eq pc.2.2.2.2.1.1,eq pc.2.2.2.2.2.1],ay bd 37 [dY,dY],ay bc 52 (ai.enc a1),ay ba 37 (jO.enc a0),own ai.K pc.2.2.2.2.1.1 pc.2.2.1,own bR pc.2.2.2.2.2.1 pc.2.2.2.1]++F) ?_
 rintro j_ ⟨xa,xb,xc,xd,vh,vi⟩ H
 rcases j_ with _ | ja
 ·
  exact (aZ.no H).elim
 try dsimp only at H
 rw [cU.l0] at H
 refine WP.seq<|wr 5 0<|gl 3 [3]<|Dv.jN Q T Q fF<|go 1<|ce H ?_ ?_ <;> intro H
 rotate_left
 ·
  refine WP.exit ?_
  have H:=H.out
  exact jn ((xa,xb,decide (xb<(a0.fL.length:Int)),xc,xd),vh,vi) H
 refine WP.skip<|WP.seq<|WP.block<|wr 7 96<|gl 3 [3]<|gr H fun gi H=>Dv.kg Q T Q Q fF ir iW gi.1 gi.2<|oz Q T Q vP Q<|al Q T uC nofun fun bg=>sy 0 ?_
 refine .fin<|WP.seq<|wr 12 0<|kW 6 [0,3] ?_
 cases cg:decide (((ai.K.at a0.fL xb).aa)=a1.aa)
 ·
  have H:=H.cf cg
  refine go 6<|WP.cond Q nofun (fun _=>?_)
  refine WP.skip<|WP.iQ H (fun qi:(Bool×Bool×(List ai)×(List Bool))×OV×OV=>qi.1) (fun qi=>[(2,bO ba),(3,bO bc),(4,bO bd),(8,bO be),(9,vB qi.1.1),(10,vI xb),(11,bO bg)]) (fun qi=>[ay bg 52 (ai.enc (ai.K.at a0.fL xb)),ay be 37 [eq qi.2.1.1,eq qi.2.2.1],ay bd 37 [dY,dY],ay bc 52 (ai.enc a1),ay ba 37 (jO.enc a0),own ai.K qi.2.1.1 qi.1.2.2.1,own bR qi.2.2.1 qi.1.2.2.2]++F) (fun qi H=>?_) (fun H=>?_)
  ·
   obtain ⟨pe,vj,vk⟩:=qi
   refine wr 7 80<|gl 3 [1,0]<|Dv.lit ai.K ([ai.K.at a0.fL xb]:List ai) (css:=[ai.enc (ai.K.at a0.fL xb)]) Q T fF ir iW uW Q dc dc Q ⟨(bn (ai.K.one _)),T⟩ Q Q Q<|gr H fun gj H=>ap ai.K 5 ([ai.K.at a0.fL xb]:List ai) bY fF (.inr ⟨_,fF⟩) nt gj nofun fun vl=>?_
   refine go 1<|sx 1 Q T Q Q (cells_one bQ) q8 Q Q Q nofun ?_
   refine .fin<|dg mX 11 1280<|gl 5 [1,4]<|gr H fun gk H=>Dv.kg Q T Q Q sg U4 c4 gk.1 gk.2<|lM Q T Q sc4 Q<|Dv.lit bR ([bR.at a0.cQ xb]:List Bool) (css:=[[vB (bR.at a0.cQ xb)]]) Q T sg U4 c4 z4 Q dc dc Q ⟨(cells_one (aj Q)),T⟩ Q Q Q<|gr H fun gm H=>ap bR 6 ([bR.at a0.cQ xb]:List Bool) bY sg (.inr ⟨_,sg⟩) Aa gm pB fun vm=>?_
   refine go 1<|sx 1 Q T Q Q (cells_one bQ) AA Q Q Q pB ?_
   refine .fin<|rg 3 0<|go 3<|ns 7 [0,1,2,3,4,5,6] 1 ?_
   exact bk ja (pe.1,ax (xb+1),pe.2.2.1++([ai.K.at a0.fL xb]:List ai),pe.2.2.2++([bR.at a0.cQ xb]:List Bool),vl,vm) H
  refine wr 23 0<|gp 3 ?_
  cases ci:!xa
  ·
   have H:=H.cf ci
   refine go 20<|WP.cond Q nofun (fun _=>?_)
   refine WP.skip ?_
   have H:=H.out
   exact jn ((xa,false,xc,xd),vh,vi) H
  have H:=H.ct ci
  refine kW 6 [3,0] ?_
  cases cj:dH a1.aa ((ai.K.at a0.fL xb).aa)
  rotate_left
  ·
   have H:=H.ct cj
   refine go 14<|WP.cond Q (fun _=>?_) nofun
   refine wr 7 80<|gl 3 [1,3]<|Dv.lit ai.K ([a1]:List ai) (css:=[ai.enc a1]) Q T fF ir iW uW Q dc dc Q ⟨(bn (ai.K.one _)),T⟩ Q Q Q<|gr H fun gn H=>ap ai.K 5 ([a1]:List ai) bY fF (.inr ⟨_,fF⟩) nt gn nofun fun vn=>?_
   refine go 1<|sx 1 Q T Q Q (cells_one bQ) q8 Q Q Q nofun ?_
   refine .fin<|wr 6 40<|gl 2 [1]<|Dv.lit bR ([false]:List Bool) (css:=[[vB false]]) Q T sg U4 c4 z4 Q dc dc Q ⟨(cells_one (aj Q)),T⟩ Q Q Q<|gr H fun gu H=>ap bR 6 ([false]:List Bool) bY sg (.inr ⟨_,sg⟩) Aa gu nofun fun vo=>?_
   refine go 1<|sx 1 Q T Q Q (cells_one bQ) AA Q Q Q nofun ?_
   refine .fin<|rg 1 0<|gq 1 ?_
   have H:=H.out
   exact jn ((true,true,xc++([a1]:List ai),xd++([false]:List Bool)),vn,vo) H
  have H:=H.cf cj
  refine kW 6 [3,0] ?_
  cases ck:decide (a1.aa=((ai.K.at a0.fL xb).aa))
  ·
   have H:=H.cf ck
   refine go 8<|WP.cond Q nofun (fun _=>?_)
   refine WP.skip ?_
   have H:=H.out
   exact jn ((xa,false,xc,xd),vh,vi) H
  have H:=H.ct ck
  refine gl 8 [3,0]<|ce H ?_ ?_ <;> intro H
  rotate_left
  ·
   refine WP.skip ?_
   have H:=H.out
   exact jn ((xa,dH a1.ak ((ai.K.at a0.fL xb).ak),xc,xd),vh,vi) H
  refine wr 7 80<|gl 3 [1,3]<|Dv.lit ai.K ([a1]:List ai) (css:=[ai.enc a1]) Q T fF ir iW uW Q dc dc Q ⟨(bn (ai.K.one _)),T⟩ Q Q Q<|gr H fun gv H=>ap ai.K 5 ([a1]:List ai) bY fF (.inr ⟨_,fF⟩) nt gv nofun fun vq=>?_
  refine go 1<|sx 1 Q T Q Q (cells_one bQ) q8 Q Q Q nofun ?_
  refine .fin<|wr 6 40<|gl 2 [1]<|Dv.lit bR ([false]:List Bool) (css:=[[vB false]]) Q T sg U4 c4 z4 Q dc dc Q ⟨(cells_one (aj Q)),T⟩ Q Q Q<|gr H fun gw H=>ap bR 6 ([false]:List Bool) bY sg (.inr ⟨_,sg⟩) Aa gw nofun fun vr=>?_
  refine go 1<|sx 1 Q T Q Q (cells_one bQ) AA Q Q Q nofun ?_
  refine .fin<|rg 1 0<|gq 1 ?_
  have H:=H.out
  exact jn ((true,dH a1.ak ((ai.K.at a0.fL xb).ak),xc++([a1]:List ai),xd++([false]:List Bool)),vq,vr) H
 have H:=H.ct cg
 refine gl 6 [0,3]<|ce H ?_ ?_ <;> intro H
 ·
  refine WP.seq<|wr 4 0<|gl 2 [3,0]<|el H fun tc hac H=>cl Q (cL 104) Q (iX.c hac)<|go 1<|ce H ?_ ?_ <;> intro H
  rotate_left
  ·
   refine WP.skip<|WP.exit<|rg 3 0<|go 3<|ns 7 [0,1,2,3,4,5,6] 1 ?_
   exact bk ja (xa,ax (xb+1),xc,xd,vh,vi) H
  refine wr 4 2<|gl 1 [4]<|sy 2 ?_
  refine gq 2 ?_
  have H:=H.fW
  cases H.out; exact rt i2 Q () 7 [0,1,2,3,4,5,6] 7 (.cons (aw Q U37 Q c37 (ab 2 Q) Q) (.cons (aG Q) (.cons (aG Q) .nil)))
 refine WP.skip<|WP.iQ H (fun qj:(Bool×Bool×(List ai)×(List Bool))×OV×OV=>qj.1) (fun qj=>[(2,bO ba),(3,bO bc),(4,bO bd),(8,bO be),(9,vB qj.1.1),(10,vI xb),(11,bO bg)]) (fun qj=>[ay bg 52 (ai.enc (ai.K.at a0.fL xb)),ay be 37 [eq qj.2.1.1,eq qj.2.2.1],ay bd 37 [dY,dY],ay bc 52 (ai.enc a1),ay ba 37 (jO.enc a0),own ai.K qj.2.1.1 qj.1.2.2.1,own bR qj.2.2.1 qj.1.2.2.2]++F) (fun qj H=>?_) (fun H=>?_)
 ·
  obtain ⟨pg,vt,vu⟩:=qj
  refine wr 7 80<|gl 3 [1,0]<|Dv.lit ai.K ([ai.K.at a0.fL xb]:List ai) (css:=[ai.enc (ai.K.at a0.fL xb)]) Q T fF ir iW uW Q dc dc Q ⟨(bn (ai.K.one _)),T⟩ Q Q Q<|gr H fun gy H=>ap ai.K 5 ([ai.K.at a0.fL xb]:List ai) bY fF (.inr ⟨_,fF⟩) nt gy nofun fun vv=>?_
  refine go 1<|sx 1 Q T Q Q (cells_one bQ) q8 Q Q Q nofun ?_
  refine .fin<|dg mX 11 1280<|gl 5 [1,4]<|gr H fun gz H=>Dv.kg Q T Q Q sg U4 c4 gz.1 gz.2<|lM Q T Q sc4 Q<|Dv.lit bR ([bR.at a0.cQ xb]:List Bool) (css:=[[vB (bR.at a0.cQ xb)]]) Q T sg U4 c4 z4 Q dc dc Q ⟨(cells_one (aj Q)),T⟩ Q Q Q<|gr H fun gaa H=>ap bR 6 ([bR.at a0.cQ xb]:List Bool) bY sg (.inr ⟨_,sg⟩) Aa gaa pB fun vx=>?_
  refine go 1<|sx 1 Q T Q Q (cells_one bQ) AA Q Q Q pB ?_
  refine .fin<|rg 3 0<|go 3<|ns 7 [0,1,2,3,4,5,6] 1 ?_
  exact bk ja (pg.1,ax (xb+1),pg.2.2.1++([ai.K.at a0.fL xb]:List ai),pg.2.2.2++([bR.at a0.cQ xb]:List Bool),vv,vx) H
 refine wr 23 0<|gp 3 ?_
 cases cn:!xa
 ·
  have H:=H.cf cn
  refine go 20<|WP.cond Q nofun (fun _=>?_)
  refine WP.skip ?_
  have H:=H.out
  exact jn ((xa,false,xc,xd),vh,vi) H
 have H:=H.ct cn
 refine kW 6 [3,0] ?_
 cases co:dH a1.aa ((ai.K.at a0.fL xb).aa)
 rotate_left
 ·
  have H:=H.ct co
  refine go 14<|WP.cond Q (fun _=>?_) nofun
  refine wr 7 80<|gl 3 [1,3]<|Dv.lit ai.K ([a1]:List ai) (css:=[ai.enc a1]) Q T fF ir iW uW Q dc dc Q ⟨(bn (ai.K.one _)),T⟩ Q Q Q<|gr H fun gab H=>ap ai.K 5 ([a1]:List ai) bY fF (.inr ⟨_,fF⟩) nt gab nofun fun vy=>?_
  refine go 1<|sx 1 Q T Q Q (cells_one bQ) q8 Q Q Q nofun ?_
  refine .fin<|wr 6 40<|gl 2 [1]<|Dv.lit bR ([false]:List Bool) (css:=[[vB false]]) Q T sg U4 c4 z4 Q dc dc Q ⟨(cells_one (aj Q)),T⟩ Q Q Q<|gr H fun gac H=>ap bR 6 ([false]:List Bool) bY sg (.inr ⟨_,sg⟩) Aa gac nofun fun vz=>?_
  refine go 1<|sx 1 Q T Q Q (cells_one bQ) AA Q Q Q nofun ?_
  refine .fin<|rg 1 0<|gq 1 ?_
  have H:=H.out
  exact jn ((true,true,xc++([a1]:List ai),xd++([false]:List Bool)),vy,vz) H
 have H:=H.cf co
 refine kW 6 [3,0] ?_
 cases cp:decide (a1.aa=((ai.K.at a0.fL xb).aa))
 ·
  have H:=H.cf cp
  refine go 8<|WP.cond Q nofun (fun _=>?_)
  refine WP.skip ?_
  have H:=H.out
  exact jn ((xa,false,xc,xd),vh,vi) H
 have H:=H.ct cp
 refine gl 8 [3,0]<|ce H ?_ ?_ <;> intro H
 rotate_left
 ·
  refine WP.skip ?_
  have H:=H.out
  exact jn ((xa,dH a1.ak ((ai.K.at a0.fL xb).ak),xc,xd),vh,vi) H
 refine wr 7 80<|gl 3 [1,3]<|Dv.lit ai.K ([a1]:List ai) (css:=[ai.enc a1]) Q T fF ir iW uW Q dc dc Q ⟨(bn (ai.K.one _)),T⟩ Q Q Q<|gr H fun gad H=>ap ai.K 5 ([a1]:List ai) bY fF (.inr ⟨_,fF⟩) nt gad nofun fun vaa=>?_
 refine go 1<|sx 1 Q T Q Q (cells_one bQ) q8 Q Q Q nofun ?_
 refine .fin<|wr 6 40<|gl 2 [1]<|Dv.lit bR ([false]:List Bool) (css:=[[vB false]]) Q T sg U4 c4 z4 Q dc dc Q ⟨(cells_one (aj Q)),T⟩ Q Q Q<|gr H fun gae H=>ap bR 6 ([false]:List Bool) bY sg (.inr ⟨_,sg⟩) Aa gae nofun fun vab=>?_
 refine go 1<|sx 1 Q T Q Q (cells_one bQ) AA Q Q Q nofun ?_
 refine .fin<|rg 1 0<|gq 1 ?_
 have H:=H.out
 exact jn ((true,dH a1.ak ((ai.K.at a0.fL xb).ak),xc++([a1]:List ai),xd++([false]:List Bool)),vaa,vab) H
theorem mf.c (h:mf.f k a0=some r):Pt prog 105 [agg (ai.enc a0)] (vB r):=by
 refine pf func105 h fun R0 F H=>?_
 refine wr 2 1<|Dv.box Q T Q cA nofun fun ba=>go 1<|wr 8 0<|gl 1 [0]<|el H fun ta haa H=>cl Q (cL 96) Q (eO.c haa)<|gp 1 ?_
 cases cc:ta
 ·
  have H:=H.cf cc
  refine gq 5 ?_
  cases H.out; exact ek 1
 have H:=H.ct cc
 refine FW 5 [0] ?_
 cases H.out; exact ek 1
theorem slices_BinarySearchFunc_Edu_Edu.c (h:slices_BinarySearchFunc_Edu_Edu.f k a0 a1 a2=some r):Pt prog 166 [sl ai.K a0,agg (ai.enc a1),iZ a2] (kR [vI r.1,vB r.2]):=by
 refine pf func166 h fun R0 F H=>?_
 refine wr 3 1<|Dv.box Q T Q cA nofun fun ba=>go 2<|wr 3 0<|go 1<|Dv.jN Q T Q fF<|go 1<|so<|WP.iQ H id (fun pa=>[(0,sl ai.K a0),(2,iZ a2),(4,bO ba),(8,vI (a0.length:Int)),(9,vI pa.1)]) (fun pa=>[ay ba 52 (ai.enc a1)]++F) (fun pa H=>?_) (fun H=>?_)
 ·
  refine wd mX 16 0<|gp 5 ?_
  cases cc:decide (pa.1<(a0.length:Int))
  ·
   have H:=H.cf cc
   refine gq 11 ?_
   cases H.out; exact ek 1
  have H:=H.ct cc
  refine go 3<|gr H fun ga H=>Dv.kg Q (gg Q) Q Q fF ir iW ga.1 ga.2<|oz Q (gg Q) Q vP Q<|gl 1 [0]<|el H fun ta haa H=>Dv.sV (ret:=vI ta) Q (gg Q) Q Q ⟨_,_,_,haa,Q,Q⟩<|gq 4 ?_
  cases H.out; exact ek 1
 refine WP.block<|ws 1 [0] 0 ?_
 refine lp (fun j_ (pc:Int×Int)=>slices_BinarySearchFunc_Edu_Edu.l0 k a0 a1 a2 j_ pc.1 pc.2) (0,(a0.length:Int)) H (fun pc=>[(0,sl ai.K a0),(2,iZ a2),(4,bO ba),(8,vI (a0.length:Int)),(9,vI pc.1),(10,vI pc.2)]) (fun pc=>[ay ba 52 (ai.enc a1)]++F) ?_
 rintro j_ ⟨xa,xb⟩ H
 rcases j_ with _ | ja
 ·
  exact (aZ.no H).elim
 try dsimp only at H
 rw [slices_BinarySearchFunc_Edu_Edu.l0] at H
 refine WP.seq<|so<|ce H ?_ ?_ <;> intro H
 rotate_left
 ·
  refine WP.exit ?_
  have H:=H.out
  exact jn (xa,xb,decide (xa<xb)) H
 refine WP.skip<|WP.block<|wr 7 0<|go 3<|Dv.Hg Q T Q U3 Hn<|n9 Q Q Q (Cn dc)<|Dv.Hg Q T Q Hn U3<|go 1<|wd mX 8 0<|go 3<|gr H fun gb H=>Dv.kg Q T Q Q fF ir iW gb.1 gb.2<|oz Q T Q vP Q<|gl 1 [0]<|el H fun tc hac H=>Dv.sV (ret:=vI tc) Q T Q Q ⟨_,_,_,hac,Q,Q⟩<|go 1<|ce H ?_ ?_ <;> intro H
 rotate_left
 ·
  exact rg 2 0<|go 2<|bk ja (xa,ax ((IntKind.u64.wrap (ax (xa+xb))).fdiv 2)) H
 exact rg 3 0<|go 3<|bk ja (ax ((ax ((IntKind.u64.wrap (ax (xa+xb))).fdiv 2))+1),xb) H
theorem dU.c (h:dU.f k a0 a1=some r):Pt prog 167 [agg (ai.enc a0),agg (ai.enc a1)] (vI r):=by
 refine pf func167 h fun R0 F H=>?_
 refine wr 3 3<|Dv.box Q T Q cA nofun fun ba=>Dv.box Q T Q cA nofun fun bc=>go 1<|wd mX 13 0<|gl 4 [1,0]<|el H fun ta haa H=>cl Q (cL 65) Q (aD.c haa)<|gl 4 [1,0]<|el H fun tc hac H=>cl Q (cL 65) Q (aD.c hac)<|Dv.lit (bp .i64) ([ta,tc]:List Int) (css:=[[vI ta],[vI tc]]) Q T qV U3 c3 z3 Q dc dc Q ⟨(cells_one (aj Q)),⟨(cells_one (aj Q)),T⟩⟩ Q Q Q<|el H fun te had H=>cl Q (cL 128) Q (bE.c had)<|gq 1 ?_
 cases H.out; exact ek 2
theorem dW.c {v0_0 v0_1:OV} {b0_:Nat} (h:dW.f k a0 a1=some r):Tr prog 106 [bO b0_,agg (ai.enc a1)] [ay b0_ 190 [eq v0_0.1,eq v0_1.1],own ai.K v0_0.1 a0.fl] (γ:=Unit) (fun _=>True) (fun g=>kR [vI r.1,vB r.2]) (fun g=>[ay b0_ 190 [eq v0_0.1,eq v0_1.1],own ai.K v0_0.1 a0.fl]):=by
 refine tf func106 h fun R0 F H=>?_
 refine wr 3 1<|Dv.box Q T Q cA nofun fun ba=>go 2<|wd mX 10 0<|gl 5 [1,0]<|el H fun ta haa H=>o8 (B:=[own ai.K v0_0.1 a0.fl]) 3 [2,0,1] (cL 166) (Pt.Bu _ (Pt.jY (slices_BinarySearchFunc_Edu_Edu.c haa) (.cons cG (.cons cG (.cons (wz (cL 167) (by rintro _ _ ⟨a0_,a1_,r_,h_,rfl,rfl⟩; exact dU.c h_)) .nil)))) (.cons (rR (ab 0 Q)) (.cons wc (.cons wc .nil))) (zR (oK oV (oK oV wi)))) ?_
 refine eD Q T Q Q<|eD Q T Q Q<|gq 2 ?_
 cases H.out; exact et () 3 [0,1,2] 1
theorem pJ.c (h:pJ.f a0=some r):Pt prog 168 [agg (ai.enc a0)] (agg (uB.enc r)):=by
 refine pf func168 h fun R0 F H=>?_
 refine wr 2 3<|Dv.box Q T Q cA nofun fun ba=>al Q T zc294 nofun fun bc=>.fin<|wr 12 2048<|gl 10 [1,1,1,1,1]<|Dv.lx (qs:=[vI a0.aE,vS a0.aa,vS a0.ak,vS a0.ag,vB a0.au]) (css:=[[vI a0.aE],[vS a0.aa],[vS a0.ak],[vS a0.ag],[vB a0.au]]) Q T JM pl294 z294 Q ⟨(cells_one (aj Q)),⟨(cells_one (aj Q)),⟨(cells_one (aj Q)),⟨(cells_one (aj Q)),⟨(cells_one (aj Q)),T⟩⟩⟩⟩⟩ Q Q<|sy 0 ?_
 refine .fin ?_
 cases H.out; exact r2 i2 Q (.cons (aw Q JM Q c294 (ab 0 Q) Q) .nil)
theorem kL.c (h:kL.f a0 a1=some r):Pt prog 232 [sl (bp .u8) a0,sl (bp .u8) a1] (vI r):=by
 refine pf func232 h fun R0 F H=>?_
 refine so<|wr 4 0<|go 2<|Dv.JR Q T Q (Jw func260 kr Q xf260 xg260)<|gq 1 ?_
 cases H.out; exact ek 0
theorem cD.c {p0_:OV} (h:cD.f k a0 a1=some r):Tr prog 261 [eq p0_.1,vI a1] [own (bp .u8) p0_.1 a0] (γ:=OV) (fun _=>True) (fun g=>eq g.1) (fun g=>[own (bp .u8) g.1 r]):=by
 refine tf func261 h fun R0 F H=>?_
 refine so<|wr 3 0<|go 1<|Dv.IH Q T Q Q<|go 1<|wr 7 32<|go 2<|Dv.kG Q T Q (ab 0 Q) jA<|go 1<|Dv.kG Q T Q (ab 0 Q) jA<|gr H fun ga H=>Dv.slo (jj:=0) Q T Q Q jA U5 c5 dG (fa Q ga.1) (.inr ⟨⟨_,_,Q,ga.1,Q⟩,Q,Q⟩) ga.2.1 ga.2.2 nofun (fun va=>?_)
 refine go 1<|WP.iQ H (fun qh:(Int×Bool×(List Int))×OV=>qh.1) (fun qh=>[(0,eq qh.2.1),(1,vI qh.1.1)]) (fun qh=>[own (bp .u8) qh.2.1 qh.1.2.2]++F) (fun qh H=>?_) (fun H=>?_)
 ·
  obtain ⟨pa,vb⟩:=qh
  refine wr 6 16<|go 2<|Dv.Hg Q T Q U3 U5<|Dv.lit (bp .u8) ([IntKind.u8.wrap (pa.1)]:List Int) (css:=[[eq (.int .u8 (IntKind.u8.wrap (pa.1)))]]) Q T jA U5 c5 z5 Q dc dc Q ⟨(cells_one (aj Q)),T⟩ Q Q Q<|gr H fun gb H=>ap (bp .u8) 0 ([IntKind.u8.wrap (pa.1)]:List Int) bY jA (.inr ⟨_,jA⟩) rG gb nofun fun vd=>?_
  refine gq 1 ?_
  cases H.out; exact et vd 1 [0] 0
 refine WP.block<|ws 1 [0] 0 ?_
 refine lp (fun j_ (pc:Int×(List Int)×OV)=>cD.l0 k j_ pc.1 pc.2.1) (max a1 0,(a0.take ((a0.length:Int).toNat)).drop 0,va) H (fun pc=>[(0,eq pc.2.2.1),(1,vI pc.1)]) (fun pc=>[own (bp .u8) pc.2.2.1 pc.2.1]++F) ?_
 rintro j_ ⟨xa,xb,ve⟩ H
 rcases j_ with _ | ja
 ·
  exact (aZ.no H).elim
 try dsimp only at H
 rw [cD.l0] at H
 refine WP.seq<|so<|ce H ?_ ?_ <;> intro H
 rotate_left
 ·
  refine WP.exit ?_
  have H:=H.out
  exact jn ((xa,decide (128≤xa),xb),ve) H
 refine WP.skip<|WP.seq<|WP.block<|rg 8 64<|go 2<|n9 Q Q Q (qo dc)<|go 1<|Dv.Hg Q T Q U3 U5<|Dv.lit (bp .u8) ([IntKind.u8.wrap (ax ((xa.tmod 128)+128))]:List Int) (css:=[[eq (.int .u8 (IntKind.u8.wrap (ax ((xa.tmod 128)+128))))]]) Q T jA U5 c5 z5 Q dc dc Q ⟨(cells_one (aj Q)),T⟩ Q Q Q<|gr H fun gi H=>ap (bp .u8) 0 ([IntKind.u8.wrap (ax ((xa.tmod 128)+128))]:List Int) bY jA (.inr ⟨_,jA⟩) rG gi nofun fun vh=>?_
 exact go 1<|rg 3 0<|go 1<|n9 Q Q Q (nM dc)<|go 1<|bk ja (ax (xa.tdiv 128),xb++([IntKind.u8.wrap (ax ((xa.tmod 128)+128))]:List Int),vh) H
theorem oo.c {p0_:OV} (h:oo.f k a0 a1=some r):Tr prog 262 [eq p0_.1,vS a1] [own (bp .u8) p0_.1 a0] (γ:=OV) (fun _=>True) (fun g=>eq g.1) (fun g=>[own (bp .u8) g.1 r]):=by
 refine tf func262 h fun R0 F H=>?_
 refine so<|wr 7 40<|go 2<|Dv.lens Q T Q U9<|el H fun ta haa H=>cx 1 [0] (cL 261) (cD.c haa (p0_:=p0_)) nofun fun ga _=>?_
 refine go 1<|gr H fun gb H=>ap (bp .u8) 0 (mw a1) CK jA (.inl U9) rG gb nofun fun va=>?_
 refine gq 1 ?_
 cases H.out; exact et va 1 [0] 0
theorem oD.c {p0_:OV} (h:oD.f k a0 a1=some r):Tr prog 263 [eq p0_.1,vB a1] [own (bp .u8) p0_.1 a0] (γ:=OV) (fun _=>True) (fun g=>eq g.1) (fun g=>[own (bp .u8) g.1 r]):=by
 refine tf func263 h fun R0 F H=>?_
 refine so<|WP.seq<|so<|ce H ?_ ?_ <;> intro H
 ·
  refine wr 3 2<|go 1<|el H fun ta haa H=>cx 1 [0] (cL 261) (cD.c haa (p0_:=p0_)) nofun fun ga _=>?_
  refine gq 1 ?_
  cases H.out; exact et ga 1 [0] 0
 refine WP.skip<|wr 3 2<|go 1<|el H fun tc hac H=>cx 1 [0] (cL 261) (cD.c hac (p0_:=p0_)) nofun fun gb _=>?_
 refine gq 1 ?_
 cases H.out; exact et gb 1 [0] 0
theorem cR.c (h:cR.f k a0=some r):Tr prog 233 [agg (ai.enc a0)] [] (γ:=OV) (fun _=>True) (fun g=>eq g.1) (fun g=>[own (bp .u8) g.1 r]):=by
 refine tf func233 h fun R0 F H=>?_
 refine wr 2 1<|Dv.box Q T Q cA nofun fun ba=>go 1<|wr 4 4<|gl 2 [0]<|vg (eX (bp .u8) none) fun _ _=>?_
 refine el H fun ta haa H=>cx 2 [0,1] (cL 261) (cD.c haa (p0_:=l6)) nofun fun ga _=>?_
 refine go 1<|WP.iQ H (fun qh:(Int×Bool×(List Int))×OV=>qh.1) (fun qh=>[(1,bO ba),(3,eq qh.2.1)]) (fun qh=>[ay ba 52 (ai.enc a0),own (bp .u8) qh.2.1 qh.1.2.2]++F) (fun qh H=>?_) (fun H=>?_)
 rotate_left
 ·
  refine wr 11 0<|gl 8 [1,1,1,1]<|Dv.lit aC ([a0.aa,a0.ak,a0.bB,a0.ag]:List BA) (css:=[[vS a0.aa],[vS a0.ak],[vS a0.bB],[vS a0.ag]]) Q T eh U9 c9 z9 Q dc dc Q ⟨(cells_one (aj Q)),⟨(cells_one (aj Q)),⟨(cells_one (aj Q)),⟨(cells_one (aj Q)),T⟩⟩⟩⟩ Q Q Q<|Dv.jN Q T Q eh<|go 1<|WP.block<|ws 2 [1,0] 0 ?_
  refine lp (fun j_ (pa:Int×(List Int)×OV)=>cR.l1 k a0 j_ pa.1 pa.2.1) (0,ta,ga) H (fun pa=>[(1,bO ba),(3,eq pa.2.2.1),(19,sl aC ([a0.aa,a0.ak,a0.bB,a0.ag]:List BA)),(20,vI (([a0.aa,a0.ak,a0.bB,a0.ag]:List BA).length:Int)),(21,vI pa.1)]) (fun pa=>[ay ba 52 (ai.enc a0),own (bp .u8) pa.2.2.1 pa.2.1]++F) ?_
  rintro j_ ⟨xa,xb,va⟩ H
  rcases j_ with _ | ja
  ·
   exact (aZ.no H).elim
  try dsimp only at H
  rw [cR.l1] at H
  refine so<|WP.seq<|ce H ?_ ?_ <;> intro H
  rotate_left
  ·
   refine WP.exit ?_
   have H:=H.out
   exact jn ((xa,decide (xa<(([a0.aa,a0.ak,a0.bB,a0.ag]:List BA).length:Int)),xb),va) H
  refine WP.skip<|WP.seq<|WP.block<|wr 3 0<|gr H fun gb H=>Dv.kg Q T Q Q eh U9 c9 gb.1 gb.2<|lM Q T Q o9 Q<|go 1<|rg 4 4<|go 2<|el H fun tc hac H=>cx 2 [1,0] (cL 262) (oo.c hac (p0_:=va)) nofun fun gi _=>?_
  refine go 1<|rg 2 0<|go 2<|ns 2 [1,0] 0 ?_
  exact bk ja (ax (xa+1),tc,gi) H
 obtain ⟨pc,vb⟩:=qh
 refine wr 5 8<|gl 3 [0]<|el H fun te had H=>cx 2 [1,0] (cL 263) (oD.c had (p0_:=vb)) nofun fun gj _=>?_
 refine go 1<|WP.iQ H (fun qi:(Int×Bool×(List Int))×OV=>qi.1) (fun qi=>[(3,eq qi.2.1)]) (fun qi=>[ay ba 52 (ai.enc a0),own (bp .u8) qi.2.1 qi.1.2.2]++F) (fun qi H=>?_) (fun H=>?_)
 ·
  obtain ⟨pe,vd⟩:=qi
  refine sp ?_
  cases H.out; exact et vd 2 [0,1] 1
 refine wr 11 0<|gl 8 [1,1,1,1]<|Dv.lit (bp .i64) ([a0.bV,a0.aU,a0.aQ,a0.aX]:List Int) (css:=[[vI a0.bV],[vI a0.aU],[vI a0.aQ],[vI a0.aX]]) Q T qV U3 c3 z3 Q dc dc Q ⟨(cells_one (aj Q)),⟨(cells_one (aj Q)),⟨(cells_one (aj Q)),⟨(cells_one (aj Q)),T⟩⟩⟩⟩ Q Q Q<|Dv.jN Q T Q qV<|go 1<|WP.block<|ws 2 [1,0] 0 ?_
 refine lp (fun j_ (pg:Int×(List Int)×OV)=>cR.l0 k a0 j_ pg.1 pg.2.1) (0,te,gj) H (fun pg=>[(3,eq pg.2.2.1),(41,sl (bp .i64) ([a0.bV,a0.aU,a0.aQ,a0.aX]:List Int)),(42,vI (([a0.bV,a0.aU,a0.aQ,a0.aX]:List Int).length:Int)),(43,vI pg.1)]) (fun pg=>[ay ba 52 (ai.enc a0),own (bp .u8) pg.2.2.1 pg.2.1]++F) ?_
 rintro j_ ⟨xc,xd,ve⟩ H
 rcases j_ with _ | jc
 ·
  exact (aZ.no H).elim
 try dsimp only at H
 rw [cR.l0] at H
 refine so<|WP.seq<|ce H ?_ ?_ <;> intro H
 rotate_left
 ·
  refine WP.exit ?_
  have H:=H.out
  exact jn ((xc,decide (xc<(([a0.bV,a0.aU,a0.aQ,a0.aX]:List Int).length:Int)),xd),ve) H
 refine WP.skip<|WP.seq<|WP.block<|wr 3 0<|gr H fun gk H=>Dv.kg Q T Q Q qV U3 c3 gk.1 gk.2<|lM Q T Q Gz Q<|go 1<|rg 4 4<|go 2<|el H fun tg hae H=>cx 2 [1,0] (cL 261) (cD.c hae (p0_:=ve)) nofun fun gm _=>?_
 refine go 1<|rg 2 0<|go 2<|ns 2 [1,0] 0 ?_
 exact bk jc (ax (xc+1),tg,gm) H
theorem lq.c (h:lq.f k a0 a1=some r):Pt prog 169 [agg (ai.enc a0),agg (ai.enc a1)] (vI r):=by
 refine pf func169 h fun R0 F H=>?_
 refine wr 3 3<|Dv.box Q T Q cA nofun fun ba=>Dv.box Q T Q cA nofun fun bc=>go 1<|WP.seq<|dgo mX [0,1,2,3,4,5,7,6,8,9,10,11,12] [6,8]<|gl 4 [1,0]<|el H fun ta haa H=>cl Q (cL 129) Q (cF.c haa)<|gl 2 [1,0]<|el H fun tc hac H=>Dv.yW (pre:=[]) (F:=[ay bc 52 (ai.enc a1),ay ba 52 (ai.enc a0)]++F) (fun ga:OV=>[own (bp .u8) ga.1 tc,ay bc 52 (ai.enc a1),ay ba 52 (ai.enc a0)]++F) Q T (cL 233) Q (cR.c hac) (mc (L:=[ay bc 52 (ai.enc a1),ay ba 52 (ai.enc a0)]) (F:=F) [0,1] Q Q Q) Q pE (fun ga _=>?_)
 refine el H fun te had H=>cx 3 [0,1,2] (cL 233) (cR.c had) pC fun gb _=>?_
 refine el H fun tg hae H=>o8 (B:=[own (bp .u8) ga.1 tc,own (bp .u8) gb.1 te]) 4 [1,0,2,3] (cL 232) (Pt.Bu _ (kL.c hae) (.cons (rR (ab 0 Q)) (.cons (rR (ab 1 Q)) .nil)) oV) ?_
 refine Dv.lit (bp .i64) ([ta,tg]:List Int) (css:=[[vI ta],[vI tg]]) Q T qV U3 c3 z3 Q dc dc Q ⟨(cells_one (aj Q)),⟨(cells_one (aj Q)),T⟩⟩ Q Q Q<|el H fun tj haf H=>cl Q (cL 128) Q (bE.c haf)<|gq 1 ?_
 cases H.out; exact ek 4
theorem jJ.c (h:jJ.f k a0 a1=some r):Pt prog 107 [agg (ai.enc a0),agg (ai.enc a1)] (vB r):=by
 refine pf func107 h fun R0 F H=>?_
 refine wr 3 3<|Dv.box Q T Q cA nofun fun ba=>Dv.box Q T Q cA nofun fun bc=>go 1<|wd mX 12 0<|gl 1 [1]<|el H fun ta haa H=>cl Q (cL 168) Q (pJ.c haa)<|gl 1 [0]<|el H fun tc hac H=>cl Q (cL 168) Q (pJ.c hac)<|Dv.eqs [.int .i64 ta.aE,.string ta.aa,.string ta.ak,.string ta.ag,.bool ta.au] [.int .i64 tc.aE,.string tc.aa,.string tc.ak,.string tc.ag,.bool tc.au] Q T Q Q Q Q eg294 (fun _=>nE 2 dc (fun _=>Kt ta tc))<|gp 1 ?_
 cases cc:decide (ta=tc)
 ·
  have H:=H.cf cc
  refine gq 6 ?_
  cases H.out; exact ek 2
 have H:=H.ct cc
 refine gl 2 [1,0]<|el H fun te had H=>Dv.call Q (gg Q) (cL 169) Q (lq.c had)<|gq 3 ?_
 cases H.out; exact ek 2
theorem cX.c {p0_:OV} (h:cX.f a0 a1 a2=some r):Tr prog 108 [eq p0_.1,vI a1,sl ai.K a2] [own ai.K p0_.1 a0] (γ:=OV) (fun _=>True) (fun g=>eq g.1) (fun g=>[own ai.K g.1 r]):=by
 unfold cX.f at h
 obtain ⟨⟨h0,h1,h2,h3,h4⟩,h5⟩:=(aZ.of h).aq
 obtain rfl:=aZ.out h5
 clear h h5
 obtain ⟨i,rfl⟩:=Int.eq_ofNat_of_zero_le h0
 have hi:i≤a0.length:=om
 obtain ⟨v,hv⟩:=p0_
 obtain ⟨ti,i1,i2,i3,i4⟩:=nt
 refine Tr.body func108 (c:=_) Q ntmps108 (Nat.le_of_ble_eq_true Q) fun R0 F=>WP.seq<|WP.qH [(0,false)] kr<|go 1<|WP.seq<|WP.qH [(0,false),(1,false),(2,false)] kr<|go 2<|Dv.sloa (Kd:=ai.K) (xs:=a0) (v:=v) Q T Q (ab 0 Q) fF ir iW (eP (m:=i) Q) hi<|.fin<|WP.seq<|WP.qH [(0,false),(1,false),(2,false)] kr<|go 1<|Dv.jN Q T Q fF<|go 1<|WP.seq<|WP.seq<|WP.qH [(0,false),(1,false)] kr<|go 2<|WP.cond Q (fun c0=>?_) (fun c0=>?_)
 ·
  exfalso; have:=beq_iff_eq.1 c0; omega
 refine WP.skip<|WP.seq<|WP.qH [(0,false),(1,false),(2,false)] kr<|go 1<|Dv.kG (Kd:=ai.K) (xs:=a0) (v:=v) Q T Q (ab 0 Q) fF<|go 1<|WP.seq<|WP.seq<|WP.qH [(0,false),(1,false),(2,false)] kr<|go 3<|WP.cond Q (fun c1=>?_) (fun c1=>?_)
 ·
  have e1:i=a0.length:=by have:=beq_iff_eq.1 c1; omega
  subst e1
  refine WP.seq<|WP.qH [(0,false),(1,false),(2,true),(3,false)] kr<|go 2<|Dv.F0 (Kd:=ai.K) (xs:=a0) (v:=v) (jj:=0) (ys:=a2) (fun v1:OV=>[own ai.K v1.1 (a0++a2)]++F) Q T Q Q Q bY fF (.inr ⟨_,fF⟩) nt Q dc om Q nofun (fun v1=>?_)
  refine gq 1 ?_
  have e2:a0.take (a0.length:Int).toNat++a2++a0.drop (a0.length:Int).toNat=a0++a2:=sM
  rw [e2]
  exact et v1 1 [0] 0
 refine WP.skip ?_
 have hlt:i<a0.length:=by have:¬ ((i:Int)=(a0.length:Int)):=(by simpa using c1); omega
 have hne:a0≠[]:=by intro e; subst e; simp at hlt
 rw [Int.toNat_natCast]
 refine wg (Bh 0 Q hne) fun g hg=>?_
 rcases g with ⟨b,off,c,bT,A,C⟩
 change v = .slice (some ⟨b,off,none⟩) a0.length c∧a0.length≤c∧A.length=off∧off+c*ai.K.sz≤(A++a0.flatMap ai.K.enc++C).length at hg
 obtain ⟨rfl,hc,hA,hlen⟩:=hg
 change WP _ _ _ _ _ _ (ay b bT (A++a0.flatMap ai.K.enc++C)::F)
 have hsz:0<ai.K.sz:=dc
 have ml:∀ {p q:Nat},p≤q→p*ai.K.sz≤q*ai.K.sz:=fun h=>Nat.mul_le_mul_right _ h
 have fl:(A++a0.flatMap ai.K.enc++C).length=off+a0.length*ai.K.sz+C.length:=by rw [List.length_append,List.length_append,bG,hA]
 have fd:((a0.drop i).flatMap ai.K.enc).length=(a0.length-i)*ai.K.sz:=by rw [bG,List.length_drop]
 have fy:(a2.flatMap ai.K.enc).length=a2.length*ai.K.sz:=bG _
 have s1:i*ai.K.sz+a2.length*ai.K.sz+(a0.length-i)*ai.K.sz=(a0.length+a2.length)*ai.K.sz:=by rw [← Nat.add_mul,← Nat.add_mul]; congr 1; omega
 have s2:(i+a2.length)*ai.K.sz=i*ai.K.sz+a2.length*ai.K.sz:=Nat.add_mul ..
 have zl:(a0.take i++a2++a0.drop i).length=a0.length+a2.length:=by simp only [List.length_append,List.length_take,List.length_drop]; omega
 refine WP.seq<|WP.seq<|WP.qH [(0,false),(1,false),(2,false),(3,false),(4,false),(5,false)] kr<|go 2<|n9 Q Q Q (nJ (a:=a0.length) (b:=a2.length) om)<|go 1<|Dv.capk Q T Q fF<|go 1<|WP.cond Q (fun c2=>?_) (fun c2=>?_)
 ·
  have hg:c<a0.length+a2.length:=by have:=of_decide_eq_true c2; omega
  refine WP.seq<|WP.qH [(0,false),(1,false),(2,false),(3,false),(4,false),(5,false),(6,false),(7,false),(8,true),(9,false)] kr<|go 2<|Dv.vN (o':=off) (m':=i) (c':=c) Q T Q fF ir iW dG (eP (m:=i) Q) (Nat.zero_le _) om (.inr Q) sM sM sM<|go 2<|n9 Q Q Q (nJ (a:=a0.length) (b:=a2.length) om)<|go 1<|n9 Q Q Q (Fy (a:=a0.length+a2.length) (b:=i) om om)<|Dv.apmn (sz:=ai.K.sz) (jj:=0) (k1:=a0.length+a2.length-i) (N:=a0.length+a2.length) (Q:=(a0.take i).flatMap ai.K.enc) Q T Q Q fF U3 i1 i2 i3 i4 Q dc om om hg om h4 Q ?_ (Iz (Kd:=ai.K) hi hA) nofun (fun w hw=>?_)
  ·
   rw [fl]; have:=ml (Nat.le_of_lt hlt); omega
  rcases w with ⟨b2,nc⟩
  replace hw:a0.length+a2.length≤nc:=hw
  refine gq 1 ?_
  generalize hZ:(Builtin.zeroCells (Value.cells _) ((b2,nc).2-i)).toList.map eq=Z
  have zz:Z.length=(nc-i)*ai.K.sz:=by rw [← hZ,List.length_map,Array.length_toList,Builtin.zeroCells,Array.size_map,Array.size_range]; rfl
  have ft:((a0.take i).flatMap ai.K.enc++Z).length=nc*ai.K.sz:=by rw [List.length_append,bG,List.length_take,Nat.min_eq_left hi,zz,← Nat.add_mul]; congr 1; omega
  have s3:=ml hw
  have s4:i*ai.K.sz+(a0.length-i)*ai.K.sz=a0.length*ai.K.sz:=by rw [← Nat.add_mul]; congr 1; omega
  refine WP.seq<|WP.qH [(0,false),(1,false),(2,false),(3,false),(4,true)] kr<|go 2<|Dv.vN (o':=i*ai.K.sz) (m':=a0.length+a2.length-i) (c':=nc-i) Q T Q fF ir iW (eP (m:=i) Q) dG om hw (.inl (Nat.lt_of_lt_of_le om hw)) (Nat.zero_add _) Q Q<|go 1<|Dv.Hq (jj:=0) (kk:=a2.length) Q T Q Q fF ir iW zM om Q ?_ nofun ?_
  ·
   rw [ft,fy]; omega
  refine .fin ?_
  have l1:(nK ((a0.take i).flatMap ai.K.enc++Z) (i*ai.K.sz) (a2.flatMap ai.K.enc)).length=nc*ai.K.sz:=by rw [tP (by rw [ft,fy]; omega),ft]
  refine WP.seq<|WP.GF mX [(0,false),(1,false),(2,false),(3,false),(4,false),(5,false),(6,false),(7,false),(8,true)] kr<|go 3<|n9 Q Q Q (nJ (a:=i) (b:=a2.length) om)<|Dv.vN (o':=(i+a2.length)*ai.K.sz) (m':=a0.length-i) (c':=nc-(i+a2.length)) Q T Q fF ir iW (eP (m:=i+a2.length) Q) dG om hw (.inl (Nat.lt_of_lt_of_le om hw)) (Nat.zero_add _) om Q<|go 2<|Dv.vN (o':=off+i*ai.K.sz) (m':=a0.length-i) (c':=c-i) Q T Q fF ir iW (eP (m:=i) Q) dG hi hc (.inl om) Q Q Q<|Dv.Hq (jj:=0) (kk:=a0.length-i) Q T Q Q fF ir iW (Ah (ab 1 Q) hi hA) (Nat.min_self _) Q ?_ (fun _=>fh kr) ?_
  ·
   rw [l1,fd]; omega
  refine .fin ?_
  have l2:(nK (nK ((a0.take i).flatMap ai.K.enc++Z) (i*ai.K.sz) (a2.flatMap ai.K.enc)) ((i+a2.length)*ai.K.sz) ((a0.drop i).flatMap ai.K.enc)).length=nc*ai.K.sz:=by rw [tP (by rw [l1,fd]; omega),l1]
  refine WP.seq<|WP.qH [(0,false),(1,false)] kr<|go 2<|wg (uZ (Kd:=ai.K) (off:=0) (n:=a0.length+a2.length) (c:=nc) (zs:=a0.take i++a2++a0.drop i) 0 Q zl hw (by rw [l2]; omega) (IE hi)) fun _ _=>?_
  exact et (⟨.slice (some ⟨b2,0,none⟩) (a0.length+a2.length) nc,Q⟩:OV) 2 [1,0] 1
 have hg:a0.length+a2.length≤c:=by have:=of_decide_eq_false c2; omega
 refine WP.skip ?_
 have s3:=ml hg
 refine WP.seq<|WP.qH [(0,false),(1,false),(2,false),(3,false),(4,false),(5,false)] kr<|go 3<|n9 Q Q Q (nJ (a:=a0.length) (b:=a2.length) om)<|Dv.vN (o':=off) (m':=a0.length+a2.length) (c':=c) Q T Q fF ir iW dG (eP (m:=a0.length+a2.length) Q) (Nat.zero_le _) hg (.inr Q) sM sM sM<|go 1<|WP.seq<|WP.seq<|WP.qH [(0,false),(1,false),(2,false),(3,false),(4,false),(5,false),(6,false),(7,false)] kr<|go 4<|n9 Q Q Q (nJ (a:=i) (b:=a2.length) om)<|Dv.vN (o':=off+(i+a2.length)*ai.K.sz) (m':=a0.length-i) (c':=c-(i+a2.length)) Q T Q fF ir iW (eP (m:=i+a2.length) Q) dG om hg (.inl (Nat.lt_of_lt_of_le om hg)) Q om Q<|Dv.ovl Q T Q Q (ab 0 Q) h2 hsz func170 kr Q xf170 xg170 Q fF ir<|go 1<|WP.cond Q (fun c3=>?_) (fun c3=>by cases c3)
 refine WP.seq<|WP.GF mX [(0,false),(1,false),(2,false),(3,false),(4,false),(5,false),(6,false),(7,false),(8,true)] kr<|go 3<|n9 Q Q Q (nJ (a:=i) (b:=a2.length) om)<|Dv.vN (o':=off+(i+a2.length)*ai.K.sz) (m':=a0.length-i) (c':=c-(i+a2.length)) Q T Q fF ir iW (eP (m:=i+a2.length) Q) dG om hg (.inl (Nat.lt_of_lt_of_le om hg)) Q om Q<|go 2<|Dv.vN (o':=off+i*ai.K.sz) (m':=a0.length+a2.length-i) (c':=c-i) Q T Q fF ir iW (eP (m:=i) Q) dG om hg (.inl om) Q Q Q<|Dv.Hq (jj:=0) (kk:=a0.length-i) Q T Q Q fF ir iW (Ah (ab 0 Q) hi hA) om Q ?_ (fun _=>fh kr) ?_
 ·
  rw [fd]; omega
 refine .fin ?_
 have l1:(nK (A++a0.flatMap ai.K.enc++C) (off+(i+a2.length)*ai.K.sz) ((a0.drop i).flatMap ai.K.enc)).length=(A++a0.flatMap ai.K.enc++C).length:=tP (by rw [fd]; omega)
 refine WP.seq<|WP.qH [(0,false),(1,false),(2,false),(3,false),(4,true)] kr<|go 2<|Dv.vN (o':=off+i*ai.K.sz) (m':=a0.length+a2.length-i) (c':=c-i) Q T Q fF ir iW (eP (m:=i) Q) dG om hg (.inl om) Q Q Q<|go 1<|Dv.Hq (jj:=0) (kk:=a2.length) Q T Q Q fF ir iW zM om Q ?_ nofun ?_
 ·
  rw [l1,fy]; omega
 refine .fin<|WP.seq<|WP.qH [(0,false),(1,false)] kr<|go 2<|wg (uZ (Kd:=ai.K) (off:=off) (n:=a0.length+a2.length) (c:=c) (zs:=a0.take i++a2++a0.drop i) 0 Q zl hg (by rw [tP (by rw [l1,fy]; omega),l1]; exact hlen) (Ip hi hA om)) fun _ _=>?_
 exact et (⟨.slice (some ⟨b,off,none⟩) (a0.length+a2.length) c,Q⟩:OV) 1 [0] 0
theorem dx.c {p0_:OV} (h:dx.f a0 a1 a2=some r):Tr prog 172 [eq p0_.1,vI a1,agg (db.enc a2)] [aM.O p0_ a0] (γ:=Unit) (fun _=>True) (fun g=>kR []) (fun g=>[aM.O p0_ r]):=by
 refine tf func172 h fun R0 F H=>?_
 refine wr 1 1<|Dv.box Q T Q cA nofun fun ba=>.fin<|WP.seq<|wg (aM.iM 1 Q) fun ga haa=>?_
 refine dg mX 8 128<|go 1<|Dv.bZ haa Q T Q<|fp haa Q T Q gT<|gl 3 [0,3]<|gr H fun gb H=>?_
 have hac:a1.toNat<a0.fl.length:=bC gb
 refine Dv.kF Q T Q (ab 1 Q) Q ot nu nL gb.1 gb.2<|Dv.Iy (j:=a1.toNat) (f:=0) (jj:=1) a2 Q T Q Q (bn (db.K.one _)) nu nL Q Q hac (Nat.le_of_ble_eq_true Q) Q (fun _=>fh kr)<|.fin<|dg mX 8 128<|go 1<|Dv.bZ haa Q T Q<|fp haa Q T Q tB<|gl 4 [0,3]<|Dv.mup (jj:=2) a1 Q T Q Q Q Q s7 (dR U9) (fun _=>fh kr)<|.fin<|ng (aM.shut (p:=p0_) (m:=(⟨a0.fl.set a1.toNat a2,mput a0.iE a2.dI a1⟩:aM)) (ga.1,ga.2.1,ga.2.2) haa (pm 4 [0,1,2,3])) fun _ _=>?_
 obtain rfl:=aZ.out H
 exact re Q () 2 [1,0] 1 .nil
theorem heap_ahead.c (h:heap_ahead.f k a0 a1=some r):Pt prog 235 [agg (db.enc a0),agg (db.enc a1)] (vI r):=by
 refine pf func235 h fun R0 F H=>?_
 refine wr 3 3<|Dv.box Q T Q cA nofun fun ba=>Dv.box Q T Q cA nofun fun bc=>go 1<|wd mX 13 0<|gl 4 [1,0]<|el H fun ta haa H=>cl Q (cL 129) Q (cF.c haa)<|gl 4 [1,0]<|el H fun tc hac H=>cl Q (cL 65) Q (aD.c hac)<|Dv.lit (bp .i64) ([ta,tc]:List Int) (css:=[[vI ta],[vI tc]]) Q T qV U3 c3 z3 Q dc dc Q ⟨(cells_one (aj Q)),⟨(cells_one (aj Q)),T⟩⟩ Q Q Q<|el H fun te had H=>cl Q (cL 128) Q (bE.c had)<|gq 1 ?_
 cases H.out; exact ek 2
theorem heap_Heap_down.c {p0_:OV} (h:heap_Heap_down.f k a0 a1=some r):Tr prog 173 [eq p0_.1,vI a1] [aM.O p0_ a0] (γ:=Unit) (fun _=>True) (fun g=>kR []) (fun g=>[aM.O p0_ r]):=by
 refine tf func173 h fun R0 F H=>?_
 refine wr 9 384<|go 1<|Dv.pA aM.nn Q T Q (ab 0 Q)<|vg (aM.iM 0 Q) fun ga haa=>?_
 refine fp haa Q T Q gT<|gl 2 [0]<|gr H fun gb H=>?_
 have hac:a1.toNat<a0.fl.length:=bC gb
 refine Dv.kF Q T Q (ab 1 Q) Q ot nu nL gb.1 gb.2<|Dv.o7 (j:=a1.toNat) (f:=0) Q T Q (ab 1 Q) hac nu Q nL (Nat.le_of_ble_eq_true Q)<|al Q T Fa nofun fun ba=>sy 0 ?_
 refine .fin<|WP.iQ H id (fun pa=>[(0,eq p0_.1),(1,vI pa.1),(4,bO ba)]) (fun pa=>[ay ba 299 (db.enc (a0.fl.getD a1.toNat default)),aM.O p0_ pa.2.2.2.2]++F) (fun pa H=>?_) (fun H=>?_)
 ·
  refine rg 4 8<|gl 3 [0]<|el H fun ta had H=>cx 2 [1,0] (cL 172) (dx.c had (p0_:=p0_)) nofun fun _ _=>?_
  refine .fin ?_
  obtain rfl:=aZ.out H
  exact re Q () 2 [1,0] 1 .nil
 refine WP.block<|wg (aM.shut (p:=p0_) (m:=a0) (ga.1,ga.2.1,ga.2.2) haa (pm 4 [1,2,3,0])) fun _ _=>?_
 refine ws 2 [1,0] 0 ?_
 refine lp (fun j_ (pc:Int×aM)=>heap_Heap_down.l0 k a0 a1 j_ pc.1 pc.2) (a1,a0) H (fun pc=>[(0,eq p0_.1),(1,vI pc.1),(4,bO ba)]) (fun pc=>[ay ba 299 (db.enc (a0.fl.getD a1.toNat default)),aM.O p0_ pc.2]++F) ?_
 rintro j_ ⟨xa,xb⟩ H
 rcases j_ with _ | ja
 ·
  exact (aZ.no H).elim
 try dsimp only at H
 rw [heap_Heap_down.l0] at H
 refine WP.block<|so<|WP.iQ H id (fun pe=>[(0,eq p0_.1),(1,vI xa),(4,bO ba),(5,vI pe.1)]) (fun pe=>[ay ba 299 (db.enc (a0.fl.getD a1.toNat default)),aM.O p0_ xb]++F) (fun pe H=>?_) (fun H=>?_)
 ·
  refine WP.seq<|WP.seq<|wg (aM.iM 1 Q) fun gi hae=>?_
  refine dg mX 19 0<|go 2<|Dv.bZ hae Q T Q<|fp hae Q T Q gT<|gl 1 [0]<|Dv.kG Q T Q (ab 1 Q) ot<|gp 2 ?_
  cases cc:decide ((xb.fl.length:Int)≤pe.1)
  rotate_left
  ·
   have H:=H.ct cc
   refine go 11<|WP.cond Q (fun _=>?_) nofun
   refine WP.exit ?_
   have H:=H.out
   refine ng (aM.shut (p:=p0_) (m:=xb) (gi.1,gi.2.1,gi.2.2) hae (pm 4 [0,1,2,3])) fun _ _=>?_
   refine ns 2 [1,0] 0 ?_
   exact jn (xa,pe.1,pe.2,true,xb) H
  have H:=H.cf cc
  refine gl 2 [3]<|Dv.bZ hae Q (gg Q) Q<|fp hae Q (gg Q) Q gT<|gl 2 [0]<|gr H fun gj H=>?_
  have haf:pe.1.toNat<xb.fl.length:=bC gj
  refine Dv.kF Q (gg Q) Q (ab 1 Q) Q ot nu nL gj.1 gj.2<|Dv.o7 (j:=pe.1.toNat) (f:=0) Q (gg Q) Q (ab 1 Q) haf nu Q nL (Nat.le_of_ble_eq_true Q)<|el H fun tc hag H=>Dv.call Q (gg Q) (cL 235) Q (heap_ahead.c hag)<|go 2<|ce H ?_ ?_ <;> intro H
  ·
   refine WP.exit ?_
   have H:=H.out
   refine ng (aM.shut (p:=p0_) (m:=xb) (gi.1,gi.2.1,gi.2.2) hae (pm 4 [0,1,2,3])) fun _ _=>?_
   refine ns 2 [1,0] 0 ?_
   exact jn (xa,pe.1,pe.2,decide (tc<0),xb) H
  refine WP.skip<|wr 10 512<|go 3<|Dv.bZ hae Q T Q<|fp hae Q T Q gT<|gl 2 [0]<|gr H fun gk H=>?_
  have hah:pe.1.toNat<xb.fl.length:=bC gk
  refine Dv.kF Q T Q (ab 1 Q) Q ot nu nL gk.1 gk.2<|Dv.o7 (j:=pe.1.toNat) (f:=0) Q T Q (ab 1 Q) hah nu Q nL (Nat.le_of_ble_eq_true Q)<|vg (aM.shut (p:=p0_) (m:=xb) (gi.1,gi.2.1,gi.2.2) hae (pm 4 [0,1,2,3])) fun _ _=>?_
  refine el H fun te hai H=>cx 2 [0,1] (cL 172) (dx.c hai (p0_:=p0_)) nofun fun _ _=>?_
  refine .fin<|rg 2 0<|go 2<|ns 2 [1,0] 0 ?_
  exact bk ja (pe.1,te) H
 refine WP.seq<|wg (aM.iM 1 Q) fun gm haj=>?_
 refine dg mX 27 0<|go 3<|Dv.bZ haj Q T Q<|fp haj Q T Q gT<|gl 1 [0]<|Dv.kG Q T Q (ab 1 Q) ot<|gp 2 ?_
 cases cg:decide ((ax ((ax ((ax (2*xa))+1))+1))<(xb.fl.length:Int))
 ·
  have H:=H.cf cg
  refine go 18<|WP.cond Q nofun (fun _=>?_)
  refine WP.skip ?_
  have H:=H.out
  refine ng (aM.shut (p:=p0_) (m:=xb) (gm.1,gm.2.1,gm.2.2) haj (pm 4 [0,1,2,3])) fun _ _=>?_
  refine ns 2 [1,0] 0 ?_
  exact jn (ax ((ax (2*xa))+1),false) H
 have H:=H.ct cg
 refine go 1<|Dv.bZ haj Q (gg Q) Q<|fp haj Q (gg Q) Q gT<|gl 3 [0]<|gr H fun gn H=>?_
 have hak:(ax ((ax ((ax (2*xa))+1))+1)).toNat<xb.fl.length:=bC gn
 refine Dv.kF Q (gg Q) Q (ab 1 Q) Q ot nu nL gn.1 gn.2<|Dv.o7 (j:=((ax ((ax ((ax (2*xa))+1))+1)).toNat)) (f:=0) Q (gg Q) Q (ab 1 Q) hak nu Q nL (Nat.le_of_ble_eq_true Q)<|go 1<|Dv.bZ haj Q (gg Q) Q<|fp haj Q (gg Q) Q gT<|gl 2 [0]<|gr H fun gu H=>?_
 have ham:(ax ((ax (2*xa))+1)).toNat<xb.fl.length:=bC gu
 refine Dv.kF Q (gg Q) Q (ab 1 Q) Q ot nu nL gu.1 gu.2<|Dv.o7 (j:=((ax ((ax (2*xa))+1)).toNat)) (f:=0) Q (gg Q) Q (ab 1 Q) ham nu Q nL (Nat.le_of_ble_eq_true Q)<|el H fun tg han H=>Dv.call Q (gg Q) (cL 235) Q (heap_ahead.c han)<|go 2<|ce H ?_ ?_ <;> intro H
 rotate_left
 ·
  refine WP.skip ?_
  have H:=H.out
  refine ng (aM.shut (p:=p0_) (m:=xb) (gm.1,gm.2.1,gm.2.2) haj (pm 4 [0,1,2,3])) fun _ _=>?_
  refine ns 2 [1,0] 0 ?_
  exact jn (ax ((ax (2*xa))+1),decide (tg<0)) H
 refine rg 3 0<|gq 3 ?_
 have H:=H.out
 refine ng (aM.shut (p:=p0_) (m:=xb) (gm.1,gm.2.1,gm.2.2) haj (pm 4 [0,1,2,3])) fun _ _=>?_
 refine ns 2 [1,0] 0 ?_
 exact jn (ax ((ax ((ax (2*xa))+1))+1),decide (tg<0)) H
theorem cZ.c {p0_:OV} (h:cZ.f k a0 a1=some r):Tr prog 174 [eq p0_.1,vI a1] [aM.O p0_ a0] (γ:=Unit) (fun _=>True) (fun g=>kR []) (fun g=>[aM.O p0_ r]):=by
 refine tf func174 h fun R0 F H=>?_
 refine wr 9 384<|go 1<|Dv.pA aM.nn Q T Q (ab 0 Q)<|vg (aM.iM 0 Q) fun ga haa=>?_
 refine fp haa Q T Q gT<|gl 2 [0]<|gr H fun gb H=>?_
 have hac:a1.toNat<a0.fl.length:=bC gb
 refine Dv.kF Q T Q (ab 1 Q) Q ot nu nL gb.1 gb.2<|Dv.o7 (j:=a1.toNat) (f:=0) Q T Q (ab 1 Q) hac nu Q nL (Nat.le_of_ble_eq_true Q)<|al Q T Fa nofun fun ba=>sy 0 ?_
 refine .fin<|WP.iQ H id (fun pa=>[(0,eq p0_.1),(1,vI pa.1),(4,bO ba)]) (fun pa=>[ay ba 299 (db.enc (a0.fl.getD a1.toNat default)),aM.O p0_ pa.2.2]++F) (fun pa H=>?_) (fun H=>?_)
 ·
  refine rg 4 8<|gl 3 [0]<|el H fun ta had H=>cx 2 [1,0] (cL 172) (dx.c had (p0_:=p0_)) nofun fun _ _=>?_
  refine .fin ?_
  obtain rfl:=aZ.out H
  exact re Q () 2 [1,0] 1 .nil
 refine WP.block<|wg (aM.shut (p:=p0_) (m:=a0) (ga.1,ga.2.1,ga.2.2) haa (pm 4 [1,2,3,0])) fun _ _=>?_
 refine ws 2 [1,0] 0 ?_
 refine lp (fun j_ (pc:Int×aM)=>cZ.l0 k a0 a1 j_ pc.1 pc.2) (a1,a0) H (fun pc=>[(0,eq p0_.1),(1,vI pc.1),(4,bO ba)]) (fun pc=>[ay ba 299 (db.enc (a0.fl.getD a1.toNat default)),aM.O p0_ pc.2]++F) ?_
 rintro j_ ⟨xa,xb⟩ H
 rcases j_ with _ | ja
 ·
  exact (aZ.no H).elim
 try dsimp only at H
 rw [cZ.l0] at H
 refine WP.seq<|WP.seq<|wg (aM.iM 1 Q) fun gi hae=>?_
 refine dg mX 16 0<|gp 3 ?_
 cases cc:decide (0<xa)
 ·
  have H:=H.cf cc
  refine go 13<|WP.cond Q nofun (fun _=>?_)
  refine WP.exit ?_
  have H:=H.out
  refine ng (aM.shut (p:=p0_) (m:=xb) (gi.1,gi.2.1,gi.2.2) hae (pm 4 [0,1,2,3])) fun _ _=>?_
  refine ns 2 [1,0] 0 ?_
  exact jn (xa,false,xb) H
 have H:=H.ct cc
 refine gl 2 [3]<|Dv.bZ hae Q (gg Q) Q<|fp hae Q (gg Q) Q gT<|gl 3 [0]<|bng Q Q Q Q (nM dc)<|gr H fun gj H=>?_
 have haf:(ax ((ax (xa-1)).tdiv 2)).toNat<xb.fl.length:=bC gj
 refine Dv.kF Q (gg Q) Q (ab 1 Q) Q ot nu nL gj.1 gj.2<|Dv.o7 (j:=((ax ((ax (xa-1)).tdiv 2)).toNat)) (f:=0) Q (gg Q) Q (ab 1 Q) haf nu Q nL (Nat.le_of_ble_eq_true Q)<|el H fun tc hag H=>Dv.call Q (gg Q) (cL 235) Q (heap_ahead.c hag)<|go 2<|ce H ?_ ?_ <;> intro H
 rotate_left
 ·
  refine WP.exit ?_
  have H:=H.out
  refine ng (aM.shut (p:=p0_) (m:=xb) (gi.1,gi.2.1,gi.2.2) hae (pm 4 [0,1,2,3])) fun _ _=>?_
  refine ns 2 [1,0] 0 ?_
  exact jn (xa,decide (tc<0),xb) H
 refine WP.skip<|WP.block<|wr 12 2048<|go 3<|Dv.bZ hae Q T Q<|fp hae Q T Q gT<|gl 3 [0]<|n9 Q Q Q (nM dc)<|gr H fun gk H=>?_
 have hah:(ax ((ax (xa-1)).tdiv 2)).toNat<xb.fl.length:=bC gk
 refine Dv.kF Q T Q (ab 1 Q) Q ot nu nL gk.1 gk.2<|Dv.o7 (j:=((ax ((ax (xa-1)).tdiv 2)).toNat)) (f:=0) Q T Q (ab 1 Q) hah nu Q nL (Nat.le_of_ble_eq_true Q)<|vg (aM.shut (p:=p0_) (m:=xb) (gi.1,gi.2.1,gi.2.2) hae (pm 4 [0,1,2,3])) fun _ _=>?_
 refine el H fun te hai H=>cx 2 [0,1] (cL 172) (dx.c hai (p0_:=p0_)) nofun fun _ _=>?_
 refine .fin<|rg 4 0<|go 2<|n9 Q Q Q (nM dc)<|go 1<|ns 2 [1,0] 0 ?_
 exact bk ja (ax ((ax (xa-1)).tdiv 2),te) H
theorem dw.c {p0_:OV} (h:dw.f k a0 a1=some r):Tr prog 109 [eq p0_.1,vS a1] [aM.O p0_ a0] (γ:=Unit) (fun _=>True) (fun g=>vB r.1) (fun g=>[aM.O p0_ r.2]):=by
 refine tf func109 h fun R0 F H=>?_
 refine so<|wr 11 0<|go 1<|Dv.pA aM.nn Q T Q (ab 0 Q)<|vg (aM.iM 0 Q) fun ga haa=>?_
 refine fp haa Q T Q tB<|gl 2 [0]<|Dv.mlk 0 Q T Q (ab 2 Q) Q s7 (dR U9) z3 (fun _=>Q)<|go 1<|eD Q T Q Q<|eD Q T Q Q<|go 2<|WP.seq<|so<|ce H ?_ ?_ <;> intro H
 ·
  refine so<|wg (aM.shut (p:=p0_) (m:=a0) (ga.1,ga.2.1,ga.2.2) haa (pm 3 [0,1,2])) fun _ _=>?_
  cases H.out; exact et () 1 [0] 0
 refine WP.skip<|wr 6 32<|go 1<|Dv.bZ haa Q T Q<|fp haa Q T Q tB<|gl 2 [0]<|Dv.mdl (jj:=2) Q T Q Q Q s7 (dR U9) nofun<|.fin<|wr 7 0<|go 1<|Dv.bZ haa Q T Q<|fp haa Q T Q gT<|gl 1 [0]<|Dv.kG Q T Q (ab 1 Q) ot<|go 2<|wr 9 384<|go 1<|Dv.bZ haa Q T Q<|fp haa Q T Q gT<|gl 2 [0]<|gr H fun gb H=>?_
 have hac:(ax ((a0.fl.length:Int)-1)).toNat<a0.fl.length:=bC gb
 refine Dv.kF Q T Q (ab 1 Q) Q ot nu nL gb.1 gb.2<|Dv.o7 (j:=((ax ((a0.fl.length:Int)-1)).toNat)) (f:=0) Q T Q (ab 1 Q) hac nu Q nL (Nat.le_of_ble_eq_true Q)<|al Q T Fa nofun fun ba=>sy 0 ?_
 refine .fin<|wr 10 576<|go 2<|Dv.bZ haa Q T Q<|fp haa Q T Q gT<|gl 2 [1]<|gr H fun gi H=>Dv.slo (jj:=2) Q T Q Q ot nu nL dG (fa Q gi.1) (.inl Q) gi.2.1 gi.2.2 nofun (fun va=>?_)
 refine Dv.bZ haa Q T Q<|fp haa Q T Q gT<|sx 1 Q T Q Q (cells_one bQ) I2 Q Q Q nofun ?_
 refine .fin<|WP.seq<|so<|ce H ?_ ?_ <;> intro H
 rotate_left
 ·
  refine WP.skip<|so<|wg (aM.shut (p:=p0_) (m:=(⟨(a0.fl.take ((ax ((a0.fl.length:Int)-1)).toNat)).drop 0,lK a0.iE a1⟩:aM)) (ga.1,va,ga.2.2) haa (pm 4 [1,2,3,0])) fun _ _=>?_
  cases H.out; exact et () 2 [1,0] 1
 refine wr 4 8<|gl 3 [0]<|vg (aM.shut (p:=p0_) (m:=(⟨(a0.fl.take ((ax ((a0.fl.length:Int)-1)).toNat)).drop 0,lK a0.iE a1⟩:aM)) (ga.1,va,ga.2.2) haa (pm 4 [1,2,3,0])) fun _ _=>?_
 refine el H fun ta had H=>cx 2 [0,1] (cL 172) (dx.c had (p0_:=p0_)) nofun fun _ _=>?_
 refine .fin<|wr 3 4<|go 2<|el H fun tc hae H=>cx 2 [0,1] (cL 173) (heap_Heap_down.c hae (p0_:=p0_)) nofun fun _ _=>?_
 refine .fin<|wg (aM.iM 0 Q) fun gj haf=>?_
 refine dg mX 9 256<|go 2<|Dv.bZ haf Q T Q<|fp haf Q T Q tB<|gl 3 [0,3]<|Dv.Ep 0 Q T Q (ab 2 Q) Q s7 (dR U9) z3 (fun _=>Q)<|el H fun te hag H=>cx 4 [0,1,2,3] (cL 174) (Tr.pre (pre':=[ay gj.1 261 [eq gj.2.1.1,eq gj.2.2.1],own db.K gj.2.1.1 tc.fl,mp Value.string (fun x:Int=>vI x) gj.2.2.1 tc.iE]) (cZ.c hag (p0_:=p0_)) (fun F R w=>aM.shut (p:=p0_) (m:=tc) (r:=F) (gj.1,gj.2.1,gj.2.2) haf (List.Perm.refl _) R w)) pC fun _ _=>?_
 refine .fin<|sp ?_
 cases H.out; exact et () 2 [1,0] 1
theorem eR.c {p0_:OV} (h:eR.f k a0 a1 a2=some r):Tr prog 110 [eq p0_.1,vI a1,vS a2] [aM.O p0_ a0] (γ:=Unit) (fun _=>True) (fun g=>kR []) (fun g=>[aM.O p0_ r]):=by
 refine tf func110 h fun R0 F H=>?_
 refine wr 3 4<|go 2<|el H fun ta haa H=>cx 1 [0] (cL 109) (dw.c haa (p0_:=p0_)) nofun fun _ _=>?_
 refine .fin<|wr 13 4608<|go 2<|Dv.pA aM.nn Q T Q (ab 0 Q)<|vg (aM.iM 0 Q) fun ga hac=>?_
 refine fp hac Q T Q gT<|gl 3 [0]<|Dv.lx (qs:=[vI a1,vS a2]) (css:=[[vI a1],[vS a2]]) Q T nu pl299 Kw Q ⟨(cells_one (aj Q)),⟨(cells_one (aj Q)),T⟩⟩ Q Q<|Dv.lit db.K ([(⟨a1,a2⟩:db)]:List db) (css:=[[vI a1,vS a2]]) Q T ot nu nL Kw Q dc dc Q ⟨(bn (an (aj Q) (an (aj Q) b8))),T⟩ Q Q Q<|gr H fun gb H=>ap db.K 1 ([(⟨a1,a2⟩:db)]:List db) bY ot (.inr ⟨_,ot⟩) J9 gb nofun fun va=>?_
 refine Dv.bZ hac Q T Q<|fp hac Q T Q gT<|sx 0 Q T Q Q (cells_one bQ) I2 Q Q Q nofun ?_
 refine .fin<|rg 8 128<|go 2<|Dv.bZ hac Q T Q<|fp hac Q T Q gT<|gl 1 [0]<|Dv.kG Q T Q (ab 1 Q) ot<|go 1<|vg (aM.shut (p:=p0_) (m:=(⟨ta.2.fl++([(⟨a1,a2⟩:db)]:List db),ta.2.iE⟩:aM)) (ga.1,va,ga.2.2) hac (pm 3 [0,1,2])) fun _ _=>?_
 refine el H fun tc had H=>cx 1 [0] (cL 174) (cZ.c had (p0_:=p0_)) nofun fun _ _=>?_
 refine .fin ?_
 obtain rfl:=aZ.out H
 exact re Q () 1 [0] 0 .nil
theorem jz.c (h:jz.f a0=some r):Pt prog 111 [agg (ai.enc a0)] (vI r):=by
 refine pf func111 h fun R0 F H=>?_
 refine wr 2 1<|Dv.box Q T Q cA nofun fun ba=>go 1<|spj [0,0] ?_
 cases H.out; exact ek 1
theorem fi.c {p0_:OV} (h:fi.f k a0 a1=some r):Tr prog 43 [eq p0_.1,agg (ai.enc a1)] [bH.O p0_ a0] (γ:=Unit) (fun _=>True) (fun g=>kR [vB r.1,vI r.2.1]) (fun g=>[bH.O p0_ r.2.2]):=by
 refine tf func43 h fun R0 F H=>?_
 refine wr 3 1<|Dv.box Q T Q cA nofun fun ba=>go 2<|WP.seq<|wr 8 0<|kW 4 [0] ?_
 cases cc:(a1.aE != 2)
 rotate_left
 ·
  have H:=H.ct cc
  refine go 4<|WP.cond Q (fun _=>?_) nofun
  refine sp ?_
  cases H.out; exact et () 2 [0,1] 1
 have H:=H.cf cc
 refine gl 1 [0]<|el H fun ta haa H=>Dv.call Q (gg Q) (cL 105) Q (mf.c haa)<|go 2<|ce H ?_ ?_ <;> intro H
 ·
  refine sp ?_
  cases H.out; exact et () 2 [0,1] 1
 refine WP.skip<|wr 8 0<|gl 2 [0]<|vg (bH.iM 1 Q) fun ga hac=>?_
 refine el H fun tc had H=>o8 4 [0,1,2,3] (cL 106) (Tr.jY (dW.c had (b0_:=ga.1) (v0_0:=ga.2.1) (v0_1:=ga.2.2)) (.cons (iD hac) (.cons cG .nil))) ?_
 refine go 1<|eD Q T Q Q<|eD Q T Q Q<|go 2<|WP.kN H id (fun pa=>[(0,eq p0_.1),(3,bO ba)]) (fun pa=>[ay ba 52 (ai.enc a1),bH.O p0_ pa.2.2.2]++F) (fun pa H=>?_) (fun H=>?_)
 ·
  refine wr 7 0<|gl 2 [0]<|gr H fun gb H=>n9 Q Q Q (iB gb)<|gl 2 [0]<|gr H fun gi H=>n9 Q Q Q (iB gi)<|go 1<|wr 6 32<|go 1<|Dv.pA bH.nn Q T Q (ab 1 Q)<|vg (bH.iM 1 Q) fun gj hae=>?_
  refine fp hae Q T Q Ck<|gl 2 [0]<|el H fun te haf H=>cx 4 [2,0,1,3] (cL 109) (dw.c haf (p0_:=gj.2.2)) nofun fun _ _=>?_
  refine .fin<|WP.seq<|sf [3]<|ce H ?_ ?_ <;> intro H
  rotate_left
  ·
   refine WP.skip<|so<|wg (bH.shut (p:=p0_) (m:=(⟨pa.2.2.2.fl,te.2⟩:bH)) (gj.1,gj.2.1,gj.2.2) hae (pm 4 [1,2,0,3])) fun _ _=>?_
   cases H.out; exact et () 2 [1,0] 1
  refine dg mX 8 128<|go 1<|Dv.bZ hae Q T Q<|fp hae Q T Q Ck<|gl 2 [1,3]<|el H fun tg hag H=>cl Q (cL 111) Q (jz.c hag)<|go 1<|el H fun tj hah H=>cx 4 [0,1,2,3] (cL 110) (eR.c hah (p0_:=gj.2.2)) pC fun _ _=>?_
  refine .fin<|so<|wg (bH.shut (p:=p0_) (m:=(⟨pa.2.2.2.fl,tj⟩:bH)) (gj.1,gj.2.1,gj.2.2) hae (pm 4 [1,2,0,3])) fun _ _=>?_
  cases H.out; exact et () 2 [1,0] 1
 refine WP.block<|wd mX 25 0<|gp 2 ?_
 cases cg:tc.2
 ·
  have H:=H.cf cg
  refine go 23<|WP.cond Q nofun (fun _=>?_)
  refine so<|WP.cond Q nofun (fun _=>?_)
  refine dg mX 12 2304<|go 2<|Dv.bZ hac Q T Q<|fp hac Q T Q q7<|gl 3 [0,3]<|Dv.lit ai.K ([a1]:List ai) (css:=[ai.enc a1]) Q T fF ir iW uW Q dc dc Q ⟨(bn (ai.K.one _)),T⟩ Q Q Q<|el H fun tm hai H=>Dv.yW (pre:=[own ai.K ga.2.1.1 a0.fl]) (F:=[ay ga.1 190 [eq ga.2.1.1,eq ga.2.2.1],aM.O ga.2.2 a0.gB,ay ba 52 (ai.enc a1)]++F) (fun gk:OV=>[own ai.K gk.1 tm,ay ga.1 190 [eq ga.2.1.1,eq ga.2.2.1],aM.O ga.2.2 a0.gB,ay ba 52 (ai.enc a1)]++F) Q T (cL 108) Q (cX.c hai (p0_:=ga.2.1)) (mc (L:=[ay ga.1 190 [eq ga.2.1.1,eq ga.2.2.1],own ai.K ga.2.1.1 a0.fl,aM.O ga.2.2 a0.gB,ay ba 52 (ai.enc a1)]) (F:=F) [1,0,2,3] Q Q Q) Q pE (fun gk _=>?_)
  refine Dv.bZ hac Q T Q<|fp hac Q T Q q7<|sx 1 Q T Q Q (cells_one bQ) q8 Q Q Q pB ?_
  refine .fin ?_
  have H:=H.out
  refine ng (bH.shut (p:=p0_) (m:=(⟨tm,a0.gB⟩:bH)) (ga.1,gk,ga.2.2) hac (pm 4 [1,0,2,3])) fun _ _=>?_
  refine ns 2 [1,0] 0 ?_
  exact jn (false,false,false,(⟨tm,a0.gB⟩:bH)) H
 have H:=H.ct cg
 refine go 1<|Dv.bZ hac Q (gg Q) Q<|fp hac Q (gg Q) Q q7<|gl 2 [0]<|gr H fun gm H=>?_
 have haj:tc.1.toNat<a0.fl.length:=bC gm
 refine Dv.kF Q (gg Q) Q (ab 1 Q) Q fF ir iW gm.1 gm.2<|Dv.o7 (j:=tc.1.toNat) (f:=0) Q (gg Q) Q (ab 1 Q) haj ir Q iW (Nat.le_of_ble_eq_true Q)<|gl 1 [3]<|Dv.eqs [.int .i64 ((a0.fl.getD tc.1.toNat default).aE),.string ((a0.fl.getD tc.1.toNat default).aa),.string ((a0.fl.getD tc.1.toNat default).ak),.string ((a0.fl.getD tc.1.toNat default).bB),.string ((a0.fl.getD tc.1.toNat default).ag),.bool ((a0.fl.getD tc.1.toNat default).au),.bool ((a0.fl.getD tc.1.toNat default).jX),.int .i64 ((a0.fl.getD tc.1.toNat default).bV),.int .i64 ((a0.fl.getD tc.1.toNat default).aU),.int .i64 ((a0.fl.getD tc.1.toNat default).aQ),.int .i64 ((a0.fl.getD tc.1.toNat default).aX)] [.int .i64 a1.aE,.string a1.aa,.string a1.ak,.string a1.bB,.string a1.ag,.bool a1.au,.bool a1.jX,.int .i64 a1.bV,.int .i64 a1.aU,.int .i64 a1.aQ,.int .i64 a1.aX] Q (gg Q) Q Q Q Q HH (fun _=>nE 2 dc (fun _=>Cc (a0.fl.getD tc.1.toNat default) a1))<|gp 1 ?_
 cases ci:decide (a0.fl.getD tc.1.toNat default=a1)
 rotate_left
 ·
  have H:=H.ct ci
  refine go 13<|WP.cond Q (fun _=>?_) nofun
  refine so<|wg (bH.shut (p:=p0_) (m:=a0) (ga.1,ga.2.1,ga.2.2) hac (pm 4 [0,1,2,3])) fun _ _=>?_
  have H:=H.fW
  cases H.out; exact et () 2 [1,0] 1
 have H:=H.cf ci
 refine gl 2 [3]<|Dv.bZ hac Q (gg Q) Q<|fp hac Q (gg Q) Q q7<|gl 2 [0]<|gr H fun gn H=>?_
 have hak:tc.1.toNat<a0.fl.length:=bC gn
 refine Dv.kF Q (gg Q) Q (ab 1 Q) Q fF ir iW gn.1 gn.2<|Dv.o7 (j:=tc.1.toNat) (f:=0) Q (gg Q) Q (ab 1 Q) hak ir Q iW (Nat.le_of_ble_eq_true Q)<|el H fun tn ham H=>Dv.call Q (gg Q) (cL 107) Q (jJ.c ham)<|go 4<|ce H ?_ ?_ <;> intro H
 ·
  refine so<|wg (bH.shut (p:=p0_) (m:=a0) (ga.1,ga.2.1,ga.2.2) hac (pm 4 [0,1,2,3])) fun _ _=>?_
  have H:=H.fW
  cases H.out; exact et () 2 [1,0] 1
 refine so<|WP.cond Q (fun _=>?_) nofun
 refine dg mX 8 128<|go 1<|Dv.bZ hac Q T Q<|fp hac Q T Q q7<|gl 3 [0,3]<|gr H fun gu H=>?_
 have han:tc.1.toNat<a0.fl.length:=bC gu
 refine Dv.kF Q T Q (ab 1 Q) Q fF ir iW gu.1 gu.2<|Dv.Iy (j:=tc.1.toNat) (f:=0) (jj:=1) a1 Q T Q Q (bn (ai.K.one _)) ir iW Q Q han (Nat.le_of_ble_eq_true Q) Q (fun _=>fh kr)<|.fin ?_
 have H:=H.out
 refine ng (bH.shut (p:=p0_) (m:=(⟨a0.fl.set tc.1.toNat a1,a0.gB⟩:bH)) (ga.1,ga.2.1,ga.2.2) hac (pm 4 [0,1,2,3])) fun _ _=>?_
 refine ns 2 [1,0] 0 ?_
 exact jn (true,!tn,true,(⟨a0.fl.set tc.1.toNat a1,a0.gB⟩:bH)) H
theorem jt.c (h:jt.f a0=some r):Pt prog 44 [vS a0] (vS r):=by
 refine pf func44 h fun R0 F H=>?_
 refine so<|wr 3 0<|go 1<|gr H fun ga H=>n9 Q Q Q (iB ga)<|gq 1 ?_
 cases H.out; exact ek 0
theorem di.c (h:di.f k a0 a1=some r):Pt prog 45 [agg (kA.enc a0),agg (ai.enc a1)] (kR [agg (kA.enc r.1),vB r.2.1,vI r.2.2]):=by
 refine pf func45 h fun R0 F H=>?_
 refine wr 5 7<|Dv.box Q T Q cA nofun fun ba=>Dv.box Q T Q cA nofun fun bc=>al Q T JT nofun fun bd=>go 2<|wr 3 0<|gl 1 [1]<|el H fun ta haa H=>cl Q (cL 103) Q (mn.c haa)<|go 1<|WP.seq<|wr 7 0<|kW 4 [1] ?_
 cases cc:(a1.aE != 3)
 rotate_left
 ·
  have H:=H.ct cc
  refine go 3<|WP.cond Q (fun _=>?_) nofun
  refine wr 4 2<|gl 1 [2]<|sy 0 ?_
  refine gq 2 ?_
  cases H.out; exact r3 i2 Q (.cons (aw Q U40 Q c40 (ab 0 Q) Q) (.cons (aG Q) (.cons (aG Q) .nil)))
 have H:=H.cf cc
 refine go 3<|ce H ?_ ?_ <;> intro H
 ·
  refine wr 4 2<|gl 1 [2]<|sy 0 ?_
  refine gq 2 ?_
  cases H.out; exact r3 i2 Q (.cons (aw Q U40 Q c40 (ab 0 Q) Q) (.cons (aG Q) (.cons (aG Q) .nil)))
 refine WP.skip<|wr 1 1<|al Q T JT nofun fun be=>.fin<|so<|WP.kN H (fun qh:(Bool×Int×Bool×(List ai)×(List Int))×OV×OV=>qh.1) (fun qh=>[(3,bO bc),(4,bO bd),(8,bO be),(9,vB qh.1.1)]) (fun qh=>[ay be 40 [eq qh.2.1.1,eq qh.2.2.1],ay bd 40 [dY,dY],ay bc 52 (ai.enc a1),ay ba 40 (kA.enc a0),own ai.K qh.2.1.1 qh.1.2.2.2.1,own (bp .i64) qh.2.2.1 qh.1.2.2.2.2]++F) (fun qh H=>?_) (fun H=>?_)
 ·
  obtain ⟨pa,va,vb⟩:=qh
  refine WP.seq<|so<|ce H ?_ ?_ <;> intro H
  rotate_left
  ·
   refine WP.skip<|wr 4 2<|gl 1 [0]<|sy 1 ?_
   refine go 2<|WP.gh (eF (E':=[(4,bO bd),(5,vB true),(6,vI 0)]) (l':=[ay be 40 [sl ai.K pa.2.2.2.1,eq vb.1],ay bd 40 [sl ai.K pa.2.2.2.1,eq vb.1],ay bc 52 (ai.enc a1),ay ba 40 (kA.enc a0),own (bp .i64) vb.1 pa.2.2.2.2]++F) 4 Q (ah Q ao (ah Q ao (ah Q ao cT))) (bP (.cons (cJ (.cons dm (.cons ao .nil))) (.cons (cJ (.cons dm (.cons ao .nil))) (.cons av (.cons av (.cons av .nil))))) fun _=>av)) (fun _ _=>?_)
   refine WP.gh (eF (E':=[(4,bO bd),(5,vB true),(6,vI 0)]) (l':=[ay be 40 [sl ai.K pa.2.2.2.1,sl (bp .i64) pa.2.2.2.2],ay bd 40 [sl ai.K pa.2.2.2.1,sl (bp .i64) pa.2.2.2.2],ay bc 52 (ai.enc a1),ay ba 40 (kA.enc a0)]++F) 4 Q (ah Q ao (ah Q ao (ah Q ao cT))) (bP (.cons (cJ (.cons ao (.cons dm .nil))) (.cons (cJ (.cons ao (.cons dm .nil))) (.cons av (.cons av .nil)))) fun _=>av)) (fun _ _=>?_)
   cases H.out; exact r4 i2 Q (.cons (aw Q U40 Q c40 (ab 1 Q) Q) (.cons (aG Q) (.cons (aG Q) .nil)))
  refine wr 7 80<|gl 3 [0,2]<|Dv.lit ai.K ([a1]:List ai) (css:=[ai.enc a1]) Q T fF ir iW uW Q dc dc Q ⟨(bn (ai.K.one _)),T⟩ Q Q Q<|gr H fun ga H=>ap ai.K 4 ([a1]:List ai) bY fF (.inr ⟨_,fF⟩) nt ga nofun fun vd=>?_
  refine go 1<|sx 0 Q T Q Q (cells_one bQ) q8 Q Q Q nofun ?_
  refine .fin<|rg 6 40<|gl 2 [0]<|Dv.lit (bp .i64) ([(-1)]:List Int) (css:=[[vI (-1)]]) Q T qV U3 c3 z3 Q dc dc Q ⟨(cells_one (aj Q)),T⟩ Q Q Q<|gr H fun gb H=>ap (bp .i64) 5 ([(-1)]:List Int) bY qV (.inr ⟨_,qV⟩) GO gb nofun fun ve=>?_
  refine go 1<|sx 0 Q T Q Q (cells_one bQ) Js Q Q Q nofun ?_
  refine .fin<|wr 4 2<|gl 1 [0]<|sy 1 ?_
  refine go 2<|WP.gh (eF (E':=[(4,bO bd),(5,vB true),(6,vI 0)]) (l':=[ay be 40 [sl ai.K (pa.2.2.2.1++([a1]:List ai)),eq ve.1],ay bd 40 [sl ai.K (pa.2.2.2.1++([a1]:List ai)),eq ve.1],ay bc 52 (ai.enc a1),ay ba 40 (kA.enc a0),own (bp .i64) ve.1 (pa.2.2.2.2++([(-1)]:List Int))]++F) 4 Q (ah Q ao (ah Q ao (ah Q ao cT))) (bP (.cons (cJ (.cons dm (.cons ao .nil))) (.cons (cJ (.cons dm (.cons ao .nil))) (.cons av (.cons av (.cons av .nil))))) fun _=>av)) (fun _ _=>?_)
  refine WP.gh (eF (E':=[(4,bO bd),(5,vB true),(6,vI 0)]) (l':=[ay be 40 [sl ai.K (pa.2.2.2.1++([a1]:List ai)),sl (bp .i64) (pa.2.2.2.2++([(-1)]:List Int))],ay bd 40 [sl ai.K (pa.2.2.2.1++([a1]:List ai)),sl (bp .i64) (pa.2.2.2.2++([(-1)]:List Int))],ay bc 52 (ai.enc a1),ay ba 40 (kA.enc a0)]++F) 4 Q (ah Q ao (ah Q ao (ah Q ao cT))) (bP (.cons (cJ (.cons ao (.cons dm .nil))) (.cons (cJ (.cons ao (.cons dm .nil))) (.cons av (.cons av .nil)))) fun _=>av)) (fun _ _=>?_)
  cases H.out; exact r4 i2 Q (.cons (aw Q U40 Q c40 (ab 1 Q) Q) (.cons (aG Q) (.cons (aG Q) .nil)))
 refine so<|WP.block<|wg (eX ai.K none) fun _ _=>?_
 refine wg (eX (bp .i64) none) fun _ _=>?_
 refine ws 6 [2,3,4,5,1,0] 0 ?_
 refine lp (fun j_ (pc:Bool×Int×(List ai)×(List Int)×OV×OV)=>di.l0 k a0 a1 j_ pc.1 pc.2.1 pc.2.2.1 pc.2.2.2.1) (false,0,([]:List ai),([]:List Int),l6,Fx) H (fun pc=>[(2,bO ba),(3,bO bc),(4,bO bd),(8,bO be),(9,vB pc.1),(10,vI pc.2.1)]) (fun pc=>[ay be 40 [eq pc.2.2.2.2.1.1,eq pc.2.2.2.2.2.1],ay bd 40 [dY,dY],ay bc 52 (ai.enc a1),ay ba 40 (kA.enc a0),own ai.K pc.2.2.2.2.1.1 pc.2.2.1,own (bp .i64) pc.2.2.2.2.2.1 pc.2.2.2.1]++F) ?_
 rintro j_ ⟨xa,xb,xc,xd,vh,vi⟩ H
 rcases j_ with _ | ja
 ·
  exact (aZ.no H).elim
 try dsimp only at H
 rw [di.l0] at H
 refine WP.seq<|wr 5 0<|gl 3 [3]<|Dv.jN Q T Q fF<|go 1<|ce H ?_ ?_ <;> intro H
 rotate_left
 ·
  refine WP.exit ?_
  have H:=H.out
  exact jn ((xa,xb,decide (xb<(a0.fL.length:Int)),xc,xd),vh,vi) H
 refine WP.skip<|WP.seq<|WP.block<|wr 7 96<|gl 3 [3]<|gr H fun gi H=>Dv.kg Q T Q Q fF ir iW gi.1 gi.2<|oz Q T Q vP Q<|al Q T uC nofun fun bg=>sy 0 ?_
 refine .fin<|WP.seq<|sf [0,3]<|ce H ?_ ?_ <;> intro H
 ·
  refine WP.seq<|wr 4 0<|gl 2 [3,0]<|el H fun tc hac H=>cl Q (cL 104) Q (iX.c hac)<|go 1<|ce H ?_ ?_ <;> intro H
  rotate_left
  ·
   refine WP.skip<|WP.exit<|rg 3 0<|go 3<|ns 7 [0,1,2,3,4,5,6] 1 ?_
   exact bk ja (xa,ax (xb+1),xc,xd,vh,vi) H
  refine wr 4 2<|gl 1 [4]<|sy 2 ?_
  refine gq 2 ?_
  have H:=H.fW
  cases H.out; exact rt i2 Q () 7 [0,1,2,3,4,5,6] 7 (.cons (aw Q U40 Q c40 (ab 2 Q) Q) (.cons (aG Q) (.cons (aG Q) .nil)))
 refine WP.skip<|WP.iQ H (fun qi:(Bool×Bool×(List ai)×(List Int))×OV×OV=>qi.1) (fun qi=>[(2,bO ba),(3,bO bc),(4,bO bd),(8,bO be),(9,vB qi.1.1),(10,vI xb),(11,bO bg)]) (fun qi=>[ay bg 52 (ai.enc (ai.K.at a0.fL xb)),ay be 40 [eq qi.2.1.1,eq qi.2.2.1],ay bd 40 [dY,dY],ay bc 52 (ai.enc a1),ay ba 40 (kA.enc a0),own ai.K qi.2.1.1 qi.1.2.2.1,own (bp .i64) qi.2.2.1 qi.1.2.2.2]++F) (fun qi H=>?_) (fun H=>?_)
 ·
  obtain ⟨pe,vj,vk⟩:=qi
  refine wr 7 80<|gl 3 [1,0]<|Dv.lit ai.K ([ai.K.at a0.fL xb]:List ai) (css:=[ai.enc (ai.K.at a0.fL xb)]) Q T fF ir iW uW Q dc dc Q ⟨(bn (ai.K.one _)),T⟩ Q Q Q<|gr H fun gj H=>ap ai.K 5 ([ai.K.at a0.fL xb]:List ai) bY fF (.inr ⟨_,fF⟩) nt gj nofun fun vl=>?_
  refine go 1<|sx 1 Q T Q Q (cells_one bQ) q8 Q Q Q nofun ?_
  refine .fin<|dg mX 11 1280<|gl 5 [1,4]<|gr H fun gk H=>Dv.kg Q T Q Q qV U3 c3 gk.1 gk.2<|lM Q T Q Gz Q<|Dv.lit (bp .i64) ([(bp .i64).at a0.cQ xb]:List Int) (css:=[[vI ((bp .i64).at a0.cQ xb)]]) Q T qV U3 c3 z3 Q dc dc Q ⟨(cells_one (aj Q)),T⟩ Q Q Q<|gr H fun gm H=>ap (bp .i64) 6 ([(bp .i64).at a0.cQ xb]:List Int) bY qV (.inr ⟨_,qV⟩) GO gm pB fun vm=>?_
  refine go 1<|sx 1 Q T Q Q (cells_one bQ) Js Q Q Q pB ?_
  refine .fin<|rg 3 0<|go 3<|ns 7 [0,1,2,3,4,5,6] 1 ?_
  exact bk ja (pe.1,ax (xb+1),pe.2.2.1++([ai.K.at a0.fL xb]:List ai),pe.2.2.2++([(bp .i64).at a0.cQ xb]:List Int),vl,vm) H
 refine wr 9 0<|gp 3 ?_
 cases cg:!xa
 ·
  have H:=H.cf cg
  refine go 6<|WP.cond Q nofun (fun _=>?_)
  refine WP.skip ?_
  have H:=H.out
  exact jn ((xa,false,xc,xd),vh,vi) H
 have H:=H.ct cg
 refine gl 6 [3,0]<|ce H ?_ ?_ <;> intro H
 rotate_left
 ·
  refine WP.skip ?_
  have H:=H.out
  exact jn ((xa,dH a1.ak ((ai.K.at a0.fL xb).ak),xc,xd),vh,vi) H
 refine wr 7 80<|gl 3 [1,3]<|Dv.lit ai.K ([a1]:List ai) (css:=[ai.enc a1]) Q T fF ir iW uW Q dc dc Q ⟨(bn (ai.K.one _)),T⟩ Q Q Q<|gr H fun gn H=>ap ai.K 5 ([a1]:List ai) bY fF (.inr ⟨_,fF⟩) nt gn nofun fun vn=>?_
 refine go 1<|sx 1 Q T Q Q (cells_one bQ) q8 Q Q Q nofun ?_
 refine .fin<|wr 6 40<|gl 2 [1]<|Dv.lit (bp .i64) ([(-1)]:List Int) (css:=[[vI (-1)]]) Q T qV U3 c3 z3 Q dc dc Q ⟨(cells_one (aj Q)),T⟩ Q Q Q<|gr H fun gu H=>ap (bp .i64) 6 ([(-1)]:List Int) bY qV (.inr ⟨_,qV⟩) GO gu nofun fun vo=>?_
 refine go 1<|sx 1 Q T Q Q (cells_one bQ) Js Q Q Q nofun ?_
 refine .fin<|rg 1 0<|gq 1 ?_
 have H:=H.out
 exact jn ((true,dH a1.ak ((ai.K.at a0.fL xb).ak),xc++([a1]:List ai),xd++([(-1)]:List Int)),vn,vo) H
theorem az.c (h:az.f k a0 a1 a2=some r):Pt prog 175 [sl ai.K a0,vS a1,jQ a2] (kR [vI r.1,vB r.2]):=by
 refine pf func175 h fun R0 F H=>?_
 refine so<|wr 3 0<|go 1<|Dv.jN Q T Q fF<|go 1<|so<|WP.iQ H id (fun pa=>[(0,sl ai.K a0),(1,vS a1),(2,jQ a2),(8,vI (a0.length:Int)),(9,vI pa.1)]) (fun pa=>F) (fun pa H=>?_) (fun H=>?_)
 ·
  refine wr 16 0<|gp 5 ?_
  cases cc:decide (pa.1<(a0.length:Int))
  ·
   have H:=H.cf cc
   refine gq 11 ?_
   cases H.out; exact ek 0
  have H:=H.ct cc
  refine go 3<|gr H fun ga H=>Dv.kg Q (gg Q) Q Q fF ir iW ga.1 ga.2<|oz Q (gg Q) Q vP Q<|go 1<|el H fun ta haa H=>Dv.sV (ret:=vI ta) Q (gg Q) Q Q ⟨_,_,_,haa,Q,Q⟩<|gq 4 ?_
  cases H.out; exact ek 0
 refine WP.block<|ws 0 [] 0 ?_
 refine lp (fun j_ (pc:Int×Int)=>az.l0 k a0 a1 a2 j_ pc.1 pc.2) (0,(a0.length:Int)) H (fun pc=>[(0,sl ai.K a0),(1,vS a1),(2,jQ a2),(8,vI (a0.length:Int)),(9,vI pc.1),(10,vI pc.2)]) (fun pc=>F) ?_
 rintro j_ ⟨xa,xb⟩ H
 rcases j_ with _ | ja
 ·
  exact (aZ.no H).elim
 try dsimp only at H
 rw [az.l0] at H
 refine WP.seq<|so<|ce H ?_ ?_ <;> intro H
 rotate_left
 ·
  refine WP.exit ?_
  have H:=H.out
  exact jn (xa,xb,decide (xa<xb)) H
 refine WP.skip<|WP.block<|wr 7 0<|go 3<|Dv.Hg Q T Q U3 Hn<|n9 Q Q Q (Cn dc)<|Dv.Hg Q T Q Hn U3<|go 1<|wr 8 0<|go 3<|gr H fun gb H=>Dv.kg Q T Q Q fF ir iW gb.1 gb.2<|oz Q T Q vP Q<|go 1<|el H fun tc hac H=>Dv.sV (ret:=vI tc) Q T Q Q ⟨_,_,_,hac,Q,Q⟩<|go 1<|ce H ?_ ?_ <;> intro H
 rotate_left
 ·
  exact rg 2 0<|go 2<|bk ja (xa,ax ((IntKind.u64.wrap (ax (xa+xb))).fdiv 2)) H
 exact rg 3 0<|go 3<|bk ja (ax ((ax ((IntKind.u64.wrap (ax (xa+xb))).fdiv 2))+1),xb) H
theorem dB.c (h:dB.f a0 a1=some r):Pt prog 176 [agg (ai.enc a0),vS a1] (vI r):=by
 refine pf func176 h fun R0 F H=>?_
 refine wr 2 1<|Dv.box Q T Q cA nofun fun ba=>go 1<|wr 5 0<|gl 3 [0]<|el H fun ta haa H=>cl Q (cL 65) Q (aD.c haa)<|gq 1 ?_
 cases H.out; exact ek 1
theorem dy.c {v0_0 v0_1:OV} {b0_:Nat} (h:dy.f k a0 a1=some r):Tr prog 112 [bO b0_,vS a1] [ay b0_ 192 [eq v0_0.1,eq v0_1.1],own ai.K v0_0.1 a0.fl] (γ:=Unit) (fun _=>True) (fun g=>kR [vI r.1,vB r.2]) (fun g=>[ay b0_ 192 [eq v0_0.1,eq v0_1.1],own ai.K v0_0.1 a0.fl]):=by
 refine tf func112 h fun R0 F H=>?_
 refine so<|wr 10 0<|gl 5 [0]<|el H fun ta haa H=>o8 (B:=[own ai.K v0_0.1 a0.fl]) 2 [1,0] (cL 175) (Pt.Bu _ (Pt.jY (az.c haa) (.cons cG (.cons cG (.cons (wz (cL 176) (by rintro _ _ ⟨a0_,a1_,r_,h_,rfl,rfl⟩; exact dB.c h_)) .nil)))) (.cons (rR (ab 0 Q)) (.cons wc (.cons wc .nil))) (zR (oK oV (oK oV wi)))) ?_
 refine eD Q T Q Q<|eD Q T Q Q<|gq 2 ?_
 cases H.out; exact et () 2 [0,1] 0
theorem dV.c (h:dV.f a0 a1=some r):Pt prog 125 [agg (ai.enc a0),vI a1] (vI r):=by
 refine pf func125 h fun R0 F H=>?_
 refine wr 2 1<|Dv.box Q T Q cA nofun fun ba=>go 1<|WP.seq<|sf [0]<|WP.block<|WP.seq<|WP.block<|WP.seq<|WP.block<|WP.seq<|WP.seq<|so<|ce H ?_ ?_ <;> intro H
 rotate_left
 ·
  refine WP.skip<|so<|ce H ?_ ?_ <;> intro H
  rotate_left
  ·
   refine WP.skip<|WP.exit<|sp ?_
   cases H.out; exact ek 1
  refine WP.exit<|WP.seq<|sf [0]<|ce H ?_ ?_ <;> intro H
  ·
   refine sp ?_
   cases H.out; exact ek 1
  refine WP.skip<|WP.exit<|sp ?_
  cases H.out; exact ek 1
 refine WP.exit<|sf [0]<|ce H ?_ ?_ <;> intro H
 ·
  refine sp ?_
  cases H.out; exact ek 1
 refine WP.skip<|WP.seq<|sf [0]<|ce H ?_ ?_ <;> intro H
 ·
  refine sp ?_
  cases H.out; exact ek 1
 refine WP.skip<|WP.exit<|sp ?_
 cases H.out; exact ek 1
theorem bF.c (h:bF.f k a0 a1=some r):Pt prog 113 [agg (ai.enc a0),vI a1] (kR [vI r.1,vB r.2]):=by
 refine pf func113 h fun R0 F H=>?_
 refine wr 3 1<|Dv.box Q T Q cA nofun fun ba=>go 2<|WP.kN H id (fun pa=>[]) (fun pa=>[ay ba 52 (ai.enc a0)]++F) (fun pa H=>?_) (fun H=>?_)
 ·
  refine sp ?_
  cases H.out; exact ek 1
 refine wr 2 0<|Dv.blda (qs:=[vI 30,vI 90]) (css:=[[vI 30],[vI 90]]) Q T U303 U3 c3 z303 Q ⟨(cells_one (aj Q)),⟨(cells_one (aj Q)),T⟩⟩ Q Q<|go 1<|WP.block<|ws 1 [0] 0 ?_
 refine lp (fun j_ (pc:Int)=>bF.l0 k a0 a1 j_ pc) 0 H (fun pc=>[(1,vI a1),(2,bO ba),(9,agg [vI 30,vI 90]),(10,vI pc)]) (fun pc=>[ay ba 52 (ai.enc a0)]++F) ?_
 rintro j_ xa H
 rcases j_ with _ | ja
 ·
  exact (aZ.no H).elim
 try dsimp only at H
 rw [bF.l0] at H
 refine so<|WP.seq<|ce H ?_ ?_ <;> intro H
 rotate_left
 ·
  refine WP.exit ?_
  have H:=H.out
  exact jn (xa,decide (xa<2)) H
 refine WP.skip<|WP.seq<|WP.block<|wr 2 0<|gr H fun ga H=>Dv.ixa (Kd:=(bp .i64)) (xs:=([30,90]:List Int)) Q T Q Q Q U303 U3 Q c3 Q Q ga.1 ga.2 Q<|go 1<|sf [0]<|wd mX 13 0<|gp 4 ?_
 cases cc:decide (a1<(ax (a0.aQ+((bp .i64).at ([30,90]:List Int) xa))))
 ·
  have H:=H.cf cc
  refine go 9<|WP.cond Q nofun (fun _=>?_)
  exact WP.skip<|rg 2 0<|go 2<|bk ja (ax (xa+1)) H
 have H:=H.ct cc
 refine gl 3 [0]<|el H fun ta haa H=>Dv.call Q (gg Q) (cL 125) Q (dV.c haa)<|gl 2 [0]<|el H fun tc hac H=>Dv.call Q (gg Q) (cL 125) Q (dV.c hac)<|go 2<|ce H ?_ ?_ <;> intro H
 rotate_left
 ·
  exact WP.skip<|rg 2 0<|go 2<|bk ja (ax (xa+1)) H
 refine sp ?_
 have H:=H.fW
 cases H.out; exact ek 1
theorem eG.c {p0_:OV} (h:eG.f k a0 a1=some r):Tr prog 46 [eq p0_.1,agg (ai.enc a1)] [bM.O p0_ a0] (γ:=Unit) (fun _=>True) (fun g=>kR [vB r.1,vI r.2.1]) (fun g=>[bM.O p0_ r.2.2]):=by
 refine tf func46 h fun R0 F H=>?_
 refine wr 3 1<|Dv.box Q T Q cA nofun fun ba=>go 2<|WP.seq<|wr 8 0<|kW 4 [0] ?_
 cases cc:(a1.aE != 3)
 rotate_left
 ·
  have H:=H.ct cc
  refine go 4<|WP.cond Q (fun _=>?_) nofun
  refine sp ?_
  cases H.out; exact et () 2 [0,1] 1
 have H:=H.cf cc
 refine gl 1 [0]<|el H fun ta haa H=>Dv.call Q (gg Q) (cL 105) Q (mf.c haa)<|go 2<|ce H ?_ ?_ <;> intro H
 ·
  refine sp ?_
  cases H.out; exact et () 2 [0,1] 1
 refine WP.skip<|wr 9 0<|gl 3 [0]<|vg (bM.iM 1 Q) fun ga hac=>?_
 refine el H fun tc had H=>o8 4 [0,1,2,3] (cL 112) (Tr.jY (dy.c had (b0_:=ga.1) (v0_0:=ga.2.1) (v0_1:=ga.2.2)) (.cons (iD hac) (.cons cG .nil))) ?_
 refine go 1<|eD Q T Q Q<|eD Q T Q Q<|go 2<|WP.kN H id (fun pa=>[(0,eq p0_.1),(3,bO ba)]) (fun pa=>[ay ba 52 (ai.enc a1),bM.O p0_ pa.2.2.2]++F) (fun pa H=>?_) (fun H=>?_)
 ·
  refine WP.seq<|wg (bM.iM 1 Q) fun gb hae=>?_
  refine dg mX 7 64<|go 1<|Dv.bZ hae Q T Q<|fp hae Q T Q CJ<|gl 3 [0,3]<|el H fun te haf H=>cx 4 [2,0,1,3] (cL 109) (dw.c haf (p0_:=gb.2.2)) pC fun _ _=>?_
  refine .fin<|WP.seq<|wr 7 0<|gl 1 [3]<|el H fun tg hag H=>cl Q (cL 113) Q (bF.c hag)<|go 1<|eD Q T Q Q<|eD Q T Q Q<|go 2<|so<|ce H ?_ ?_ <;> intro H
  rotate_left
  ·
   refine WP.skip<|so<|wg (bM.shut (p:=p0_) (m:=(⟨pa.2.2.2.fl,te.2⟩:bM)) (gb.1,gb.2.1,gb.2.2) hae (pm 4 [1,2,0,3])) fun _ _=>?_
   cases H.out; exact et () 2 [1,0] 1
  refine dg mX 8 128<|go 1<|Dv.bZ hae Q T Q<|fp hae Q T Q CJ<|gl 4 [1,3]<|el H fun tj hah H=>cx 4 [0,1,2,3] (cL 110) (eR.c hah (p0_:=gb.2.2)) pC fun _ _=>?_
  refine .fin<|so<|wg (bM.shut (p:=p0_) (m:=(⟨pa.2.2.2.fl,tj⟩:bM)) (gb.1,gb.2.1,gb.2.2) hae (pm 4 [1,2,0,3])) fun _ _=>?_
  cases H.out; exact et () 2 [1,0] 1
 refine WP.block<|wd mX 14 0<|gp 2 ?_
 cases cg:tc.2
 ·
  have H:=H.cf cg
  refine go 12<|WP.cond Q nofun (fun _=>?_)
  refine so<|WP.cond Q nofun (fun _=>?_)
  refine dg mX 12 2304<|go 2<|Dv.bZ hac Q T Q<|fp hac Q T Q tR<|gl 3 [0,3]<|Dv.lit ai.K ([a1]:List ai) (css:=[ai.enc a1]) Q T fF ir iW uW Q dc dc Q ⟨(bn (ai.K.one _)),T⟩ Q Q Q<|el H fun tm hai H=>Dv.yW (pre:=[own ai.K ga.2.1.1 a0.fl]) (F:=[ay ga.1 192 [eq ga.2.1.1,eq ga.2.2.1],aM.O ga.2.2 a0.eU,ay ba 52 (ai.enc a1)]++F) (fun gi:OV=>[own ai.K gi.1 tm,ay ga.1 192 [eq ga.2.1.1,eq ga.2.2.1],aM.O ga.2.2 a0.eU,ay ba 52 (ai.enc a1)]++F) Q T (cL 108) Q (cX.c hai (p0_:=ga.2.1)) (mc (L:=[ay ga.1 192 [eq ga.2.1.1,eq ga.2.2.1],own ai.K ga.2.1.1 a0.fl,aM.O ga.2.2 a0.eU,ay ba 52 (ai.enc a1)]) (F:=F) [1,0,2,3] Q Q Q) Q pE (fun gi _=>?_)
  refine Dv.bZ hac Q T Q<|fp hac Q T Q tR<|sx 1 Q T Q Q (cells_one bQ) q8 Q Q Q pB ?_
  refine .fin ?_
  have H:=H.out
  refine ng (bM.shut (p:=p0_) (m:=(⟨tm,a0.eU⟩:bM)) (ga.1,gi,ga.2.2) hac (pm 4 [1,0,2,3])) fun _ _=>?_
  refine ns 2 [1,0] 0 ?_
  exact jn (false,false,false,(⟨tm,a0.eU⟩:bM)) H
 have H:=H.ct cg
 refine gl 2 [3]<|Dv.bZ hac Q (gg Q) Q<|fp hac Q (gg Q) Q tR<|gl 2 [0]<|gr H fun gj H=>?_
 have haj:tc.1.toNat<a0.fl.length:=bC gj
 refine Dv.kF Q (gg Q) Q (ab 1 Q) Q fF ir iW gj.1 gj.2<|Dv.o7 (j:=tc.1.toNat) (f:=0) Q (gg Q) Q (ab 1 Q) haj ir Q iW (Nat.le_of_ble_eq_true Q)<|el H fun tn hak H=>Dv.call Q (gg Q) (cL 107) Q (jJ.c hak)<|go 3<|ce H ?_ ?_ <;> intro H
 ·
  refine so<|wg (bM.shut (p:=p0_) (m:=a0) (ga.1,ga.2.1,ga.2.2) hac (pm 4 [0,1,2,3])) fun _ _=>?_
  have H:=H.fW
  cases H.out; exact et () 2 [1,0] 1
 refine so<|WP.cond Q (fun _=>?_) nofun
 refine dg mX 8 128<|go 1<|Dv.bZ hac Q T Q<|fp hac Q T Q tR<|gl 3 [0,3]<|gr H fun gk H=>?_
 have ham:tc.1.toNat<a0.fl.length:=bC gk
 refine Dv.kF Q T Q (ab 1 Q) Q fF ir iW gk.1 gk.2<|Dv.Iy (j:=tc.1.toNat) (f:=0) (jj:=1) a1 Q T Q Q (bn (ai.K.one _)) ir iW Q Q ham (Nat.le_of_ble_eq_true Q) Q (fun _=>fh kr)<|.fin ?_
 have H:=H.out
 refine ng (bM.shut (p:=p0_) (m:=(⟨a0.fl.set tc.1.toNat a1,a0.eU⟩:bM)) (ga.1,ga.2.1,ga.2.2) hac (pm 4 [0,1,2,3])) fun _ _=>?_
 refine ns 2 [1,0] 0 ?_
 exact jn (true,!tn,true,(⟨a0.fl.set tc.1.toNat a1,a0.eU⟩:bM)) H
theorem jg.c (h:jg.f a0=some r):Pt prog 47 [vS a0] (vS r):=by
 refine pf func47 h fun R0 F H=>?_
 refine so<|wr 3 0<|go 1<|gr H fun ga H=>n9 Q Q Q (iB ga)<|gq 1 ?_
 cases H.out; exact ek 0
theorem nP.c {b off:Nat} {bT:TypeId} {qs:Cs} {n:Int} (h0:qs[off]? = some (vI n)):Tr prog 178 [eq (.pointer (some ⟨b,off,none⟩))] [ay b bT qs] (γ:=Unit) (fun _=>True) (fun _=>vI n) (fun _=>[ay b bT qs]):=by
 exact Tr.body func178 (c:=_) Q ntmps178 (Nat.le_of_ble_eq_true Q) fun R0 F=>WP.seq<|WP.qH [(0,false)] kr<|go 1<|WP.seq<|WP.qH [(0,false),(1,false),(2,false),(3,false),(4,false)] kr<|go 3<|Dv.cextr (A:=ay b bT qs) Q T Q (Io h0 func237 kr Q xf237 xg237) (ab 0 Q)<|go 1<|rt i2 Q () 1 [0] 0 (.cons (aG Q) .nil)
theorem jV.c {b off:Nat} {bT:TypeId} {qs:Cs} {n m:Int} (h0:qs[off]? = some (vI n)):Tr prog 236 [eq (.pointer (some ⟨b,off,none⟩)),vI n,vI m] [ay b bT qs] (γ:=Unit) (fun _=>True) (fun _=>vB true) (fun _=>[ay b bT (qs.set off (vI m))]):=by
 exact Tr.body func236 (c:=_) Q ntmps236 (Nat.le_of_ble_eq_true Q) fun R0 F=>WP.seq<|WP.qH [(0,false)] kr<|go 1<|WP.seq<|WP.qH [(0,false),(1,false),(2,false),(3,false),(4,false),(5,true),(6,false)] kr<|go 5<|Dv.IY (jj:=0) (qs:=qs) Q T Q (Kg h0 func265 kr Q xf265 xg265) Q nofun<|go 1<|rt i2 Q () 1 [0] 0 (.cons (aG Q) .nil)
theorem clock_Counter_Add.c {p0_:OV} (h:clock_Counter_Add.f k a0 a1=some r):Tr prog 177 [eq p0_.1,vI a1] [kJ.O p0_ a0] (γ:=Unit) (fun _=>True) (fun g=>kR [vI r.1,vI r.2.1]) (fun g=>[kJ.O p0_ r.2.2]):=by
 refine tf func177 h fun R0 F H=>?_
 refine so<|WP.seq<|so<|ce H ?_ ?_ <;> intro H
 ·
  refine sp ?_
  cases H.out; exact et () 1 [0] 0
 refine WP.skip<|WP.block<|ws 1 [0] 0 ?_
 refine lp (fun j_ (pa:Unit)=>clock_Counter_Add.l0 k a0 a1 j_) () H (fun pa=>[(0,eq p0_.1),(1,vI a1)]) (fun pa=>[kJ.O p0_ a0]++F) ?_
 rintro j_ ⟨⟩ H
 rcases j_ with _ | ja
 ·
  exact (aZ.no H).elim
 try dsimp only at H
 rw [clock_Counter_Add.l0] at H
 refine WP.block<|wr 5 0<|go 1<|Dv.pA kJ.nn Q T Q (ab 0 Q)<|vg (kJ.iM 0 Q) fun ga haa=>?_
 refine fp haa Q T Q wY<|o8 1 [0] (cL 178) (nP.c (b:=ga) (off:=0) (bT:=257) (qs:=[vI a0.fn.fv,vI a0.dZ]) (n:=a0.fn.fv) Q) ?_
 refine go 1<|WP.seq<|wr 10 0<|gp 3 ?_
 cases cc:decide (0<a1)
 ·
  have H:=H.cf cc
  refine go 7<|WP.cond Q nofun (fun _=>?_)
  refine WP.skip<|wr 5 0<|go 1<|Dv.bZ haa Q T Q<|fp haa Q T Q ry<|gl 2 [0]<|WP.iQ H id (fun pc=>[(0,eq p0_.1),(1,vI a1),(6,vI a0.fn.fv),(7,vI pc)]) (fun pc=>[kJ.O p0_ a0]++F) (fun pc H=>?_) (fun H=>?_)
  rotate_left
  ·
   refine wr 8 0<|go 2<|Dv.bZ haa Q T Q<|fp haa Q T Q ry<|gl 4 [0]<|ce H ?_ ?_ <;> intro H
   rotate_left
   ·
    refine WP.skip ?_
    have H:=H.out
    refine ng (kJ.shut (p:=p0_) (m:=a0) ga haa (pm 1 [0])) fun _ _=>?_
    exact jn a0.dZ H
   refine rg 4 0<|gq 4 ?_
   have H:=H.out
   refine ng (kJ.shut (p:=p0_) (m:=a0) ga haa (pm 1 [0])) fun _ _=>?_
   exact jn (ax (a0.fn.fv+a1)) H
  refine wr 10 256<|gp 3 ?_
  cases cg:(a1==0)
  rotate_left
  ·
   have H:=H.ct cg
   refine go 5<|Dv.Cw Q ⟨_,_,Q,Q,.inl Q⟩ nofun<|go 1<|WP.cond Q (fun _=>?_) nofun
   refine sp ?_
   cases H.out; exact et () 1 [0] 0
  have H:=H.cf cg
  refine go 1<|Dv.pA kJ.nn Q (gg Q) Q (ab 0 Q)<|vg (kJ.iM 0 Q) fun gb hac=>?_
  refine fp hac Q (gg Q) Q wY<|go 2<|cx 1 [0] (cL 236) (jV.c (b:=gb) (off:=0) (bT:=257) (qs:=[vI a0.fn.fv,vI a0.dZ]) (n:=a0.fn.fv) (m:=pc) Q) nofun fun _ _=>?_
  refine go 1<|WP.cond Q (fun _=>?_) nofun
  refine so<|wg (kJ.shut (p:=p0_) (m:=(⟨(⟨pc⟩:Bc),a0.dZ⟩:kJ)) gb hac (pm 1 [0])) fun _ _=>?_
  cases H.out; exact et () 1 [0] 0
 have H:=H.ct cc
 refine go 2<|Dv.bZ haa Q (gg Q) Q<|fp haa Q (gg Q) Q ry<|gl 3 [0]<|ce H ?_ ?_ <;> intro H
 ·
  refine so<|wg (kJ.shut (p:=p0_) (m:=a0) ga haa (pm 1 [0])) fun _ _=>?_
  cases H.out; exact et () 1 [0] 0
 refine WP.skip<|wr 5 0<|go 1<|Dv.bZ haa Q T Q<|fp haa Q T Q ry<|gl 2 [0]<|WP.iQ H id (fun pe=>[(0,eq p0_.1),(1,vI a1),(6,vI a0.fn.fv),(7,vI pe)]) (fun pe=>[kJ.O p0_ a0]++F) (fun pe H=>?_) (fun H=>?_)
 rotate_left
 ·
  refine wr 8 0<|go 2<|Dv.bZ haa Q T Q<|fp haa Q T Q ry<|gl 4 [0]<|ce H ?_ ?_ <;> intro H
  rotate_left
  ·
   refine WP.skip ?_
   have H:=H.out
   refine ng (kJ.shut (p:=p0_) (m:=a0) ga haa (pm 1 [0])) fun _ _=>?_
   exact jn a0.dZ H
  refine rg 4 0<|gq 4 ?_
  have H:=H.out
  refine ng (kJ.shut (p:=p0_) (m:=a0) ga haa (pm 1 [0])) fun _ _=>?_
  exact jn (ax (a0.fn.fv+a1)) H
 refine wr 10 256<|gp 3 ?_
 cases ci:(a1==0)
 rotate_left
 ·
  have H:=H.ct ci
  refine go 5<|Dv.Cw Q ⟨_,_,Q,Q,.inl Q⟩ nofun<|go 1<|WP.cond Q (fun _=>?_) nofun
  refine sp ?_
  cases H.out; exact et () 1 [0] 0
 have H:=H.cf ci
 refine go 1<|Dv.pA kJ.nn Q (gg Q) Q (ab 0 Q)<|vg (kJ.iM 0 Q) fun gi had=>?_
 refine fp had Q (gg Q) Q wY<|go 2<|cx 1 [0] (cL 236) (jV.c (b:=gi) (off:=0) (bT:=257) (qs:=[vI a0.fn.fv,vI a0.dZ]) (n:=a0.fn.fv) (m:=pe) Q) nofun fun _ _=>?_
 refine go 1<|WP.cond Q (fun _=>?_) nofun
 refine so<|wg (kJ.shut (p:=p0_) (m:=(⟨(⟨pe⟩:Bc),a0.dZ⟩:kJ)) gi had (pm 1 [0])) fun _ _=>?_
 cases H.out; exact et () 1 [0] 0
theorem fq.c {p0_:OV} (h:fq.f k a0=some r):Tr prog 114 [eq p0_.1] [kJ.O p0_ a0] (γ:=Unit) (fun _=>True) (fun g=>kR [vI r.1,vI r.2.1]) (fun g=>[kJ.O p0_ r.2.2]):=by
 refine tf func114 h fun R0 F H=>?_
 refine so<|wr 6 2<|go 1<|el H fun ta haa H=>cx 1 [0] (cL 177) (clock_Counter_Add.c haa (p0_:=p0_)) nofun fun _ _=>?_
 refine eD Q T Q Q<|eD Q T Q Q<|gq 2 ?_
 cases H.out; exact et () 1 [0] 0
theorem bA.c (h:bA.f k a0 a1=some r):Pt prog 115 [sl aC a0,vS a1] (vI r):=by
 refine pf func115 h fun R0 F H=>?_
 refine so<|WP.kN H id (fun pa=>[]) (fun pa=>F) (fun pa H=>?_) (fun H=>?_)
 ·
  refine sp ?_
  cases H.out; exact ek 0
 refine wr 3 0<|go 1<|Dv.jN Q T Q eh<|go 1<|WP.block<|ws 0 [] 0 ?_
 refine lp (fun j_ (pc:Int)=>bA.l0 k a0 a1 j_ pc) 0 H (fun pc=>[(0,sl aC a0),(1,vS a1),(7,vI (a0.length:Int)),(8,vI pc)]) (fun pc=>F) ?_
 rintro j_ xa H
 rcases j_ with _ | ja
 ·
  exact (aZ.no H).elim
 try dsimp only at H
 rw [bA.l0] at H
 refine so<|WP.seq<|ce H ?_ ?_ <;> intro H
 rotate_left
 ·
  refine WP.exit ?_
  have H:=H.out
  exact jn (xa,decide (xa<(a0.length:Int))) H
 refine WP.skip<|WP.seq<|WP.block<|so<|wr 6 0<|go 3<|gr H fun ga H=>Dv.kg Q T Q Q eh U9 c9 ga.1 ga.2<|lM Q T Q o9 Q<|go 1<|ce H ?_ ?_ <;> intro H
 rotate_left
 ·
  exact WP.skip<|rg 2 0<|go 2<|bk ja (ax (xa+1)) H
 refine sp ?_
 have H:=H.fW
 cases H.out; exact ek 0
theorem dS.c {a1 a2:Int} {p0_:OV} (h:dS.f a0 a1 a2=some r):Tr prog 116 [eq p0_.1,vI a1,vI a2] [own aC p0_.1 a0] (γ:=OV) (fun _=>True) (fun g=>eq g.1) (fun g=>[own aC g.1 r]):=by
  unfold dS.f at h
  obtain ⟨⟨h1,h2,h3⟩,h5⟩:=(aZ.of h).aq
  obtain rfl:=aZ.out h5
  clear h h5
  obtain ⟨i,rfl⟩:=Int.eq_ofNat_of_zero_le h1
  obtain ⟨j,rfl⟩:=Int.eq_ofNat_of_zero_le (show (0:Int)≤a2 by omega)
  have hij:i≤j:=om
  have hj:j≤a0.length:=om
  obtain ⟨v,hv⟩:=p0_
  rw [Int.toNat_natCast,Int.toNat_natCast]
  refine Tr.body func116 (c:=_) Q ntmps116 (Nat.le_of_ble_eq_true Q) fun R0 F=>?_
  refine so<|wr 6 0<|go 4<|Dv.kG (Kd:=aC) (xs:=a0) (v:=v) Q T Q (ab 0 Q) eh<|Dv.sl3 (Kd:=aC) Q T Q (ab 0 Q) eh U9 c9 (eP Q) (eP Q) (eP Q) hij hj<|.fin<|WP.seq<|so<|WP.cond Q (fun c0=>?_) (fun c0=>?_)
  · have e1:i=j:=by have:=beq_iff_eq.1 c0; omega
    subst e1
    rw [List.take_append_drop]
    refine sp ?_
    exact WP.A5 (fun _ _ h=>h) Q (⟨v,hv⟩:OV) T (.cons (aG Q) .nil) Q (uN (L:=[own aC v a0]) (F:=F) [0] 0 Q Q Q)
  have hlt:i<j:=by
    have:¬ ((i:Int)=(j:Int)):=by simpa using c0
    omega
  have hzl:(a0.take i++a0.drop j++a0.drop (i+(a0.length-j))).length=a0.length:=by simp only [List.length_append,List.length_take,List.length_drop]; omega
  have hpl:(i+(a0.length-j))<(a0.take i++a0.drop j++a0.drop (i+(a0.length-j))).length:=by rw [hzl]; omega
  have hfin:((a0.take i++a0.drop j++a0.drop (i+(a0.length-j))).take (i+(a0.length-j))++List.replicate ((a0.take i++a0.drop j++a0.drop (i+(a0.length-j))).length-(i+(a0.length-j))) eE).take (i+(a0.length-j))=a0.take i++a0.drop j:=by
    have hl:(a0.take i++a0.drop j).length=(i+(a0.length-j)):=by rw [List.length_append,List.length_take,List.length_drop]; omega
    rw [List.take_append,List.take_take,Nat.min_self,List.take_left' hl]
    have:(i+(a0.length-j))-(a0.take i++a0.drop j).length=0:=om
    rw [this,List.take_zero,List.append_nil]
  refine WP.skip<|wr 3 0<|go 1<|Dv.kG (Kd:=aC) (xs:=a0) (v:=v) Q T Q (ab 0 Q) eh<|go 1<|wd mX 8 64<|go 2<|Dv.slpf (Kd:=aC) Q T Q (ab 0 Q) eh U9 c9 (eP Q) (Nat.le_trans hij hj)<|go 2<|Dv.slt (Kd:=aC) (p:=j) Q T Q (ab 0 Q) eh U9 c9 (eP Q) hj<|Dv.apt (Kd:=aC) (jj:=0) Q T Q Q Q eh eh U9 c9 ⟨hlt,hj⟩ (fun _=>fh kr)<|gq 1 ?_
  refine wr 6 32<|go 2<|Dv.lenp (Kd:=aC) (xs:=(a0.take i++a0.drop j++a0.drop (i+(a0.length-j)))) Q T Q (ab 0 Q) eh<|go 1<|Dv.slpt (Kd:=aC) (xs:=(a0.take i++a0.drop j++a0.drop (i+(a0.length-j)))) (p:=(i+(a0.length-j))) (q:=a0.length) Q T Q (ab 0 Q) eh U9 c9 (eP Q) (eP Q) om (Nat.le_of_eq hzl.symm)<|Dv.clrt (Kd:=aC) (jj:=0) eE Q T ((show opv _ _=some (eq (tlv _ v a0.length (i+(a0.length-j)))) from Q).trans (congrArg (fun z=>some (eq (tlv _ v z (i+(a0.length-j))))) hzl.symm)) eh z9 Q Q (fun u hu=>by simp [Value.cells] at hu; subst hu; rfl) hpl Q nofun<|.fin<|sp ?_
  refine WP.gh (l':=fun _:Unit=>[own aC (pfv v (i+(a0.length-j))) (a0.take i++a0.drop j)]++F) (iR (ok:=fun _=>True) (fun R w h=>by obtain ⟨_,_,h2⟩:=D3 (m:=(i+(a0.length-j))) 0 rfl (by rw [List.length_append,List.length_take,List.length_replicate]; omega) R w h; rw [hfin] at h2; exact ⟨(),T,h2⟩)) (fun _ _=>?_)
  exact WP.A5 (fun _ _ h=>h) Q (⟨pfv v (i+(a0.length-j)),Cp hv⟩:OV) T (.cons (aG Q) .nil) Q (uN (L:=[own aC (pfv v (i+(a0.length-j))) (a0.take i++a0.drop j)]) (F:=F) [0] 0 Q Q Q)
theorem ic.c {p0_:OV} (h:ic.f k a0 a1=some r):Tr prog 48 [eq p0_.1,vS a1] [bK.O p0_ a0] (γ:=Unit) (fun _=>True) (fun g=>kR [vI r.1,vI r.2.1]) (fun g=>[bK.O p0_ r.2.2]):=by
 refine tf func48 h fun R0 F H=>?_
 refine so<|wr 10 16<|go 1<|Dv.pA bK.nn Q T Q (ab 0 Q)<|vg (bK.iM 0 Q) fun ga haa=>?_
 refine fp haa Q T Q BV<|gl 1 [0]<|el H fun ta hac H=>cx 4 [1,0,2,3] (cL 114) (fq.c hac (p0_:=ga.2.1)) nofun fun _ _=>?_
 refine go 1<|eD Q T Q Q<|eD Q T Q Q<|go 2<|WP.seq<|so<|ce H ?_ ?_ <;> intro H
 ·
  refine so<|wg (bK.shut (p:=p0_) (m:=(⟨ta.2.2,a0.eJ,a0.nX⟩:bK)) (ga.1,ga.2.1,ga.2.2.1,ga.2.2.2) haa (pm 4 [1,0,2,3])) fun _ _=>?_
  cases H.out; exact et () 1 [0] 0
 refine WP.skip<|WP.iQ H id (fun pa=>[(0,eq p0_.1),(1,vS a1),(6,vI ta.1)]) (fun pa=>[bK.O p0_ pa]++F) (fun pa H=>?_) (fun H=>?_)
 ·
  refine wr 11 1152<|go 2<|Dv.pA bK.nn Q T Q (ab 0 Q)<|vg (bK.iM 0 Q) fun gb had=>?_
  refine fp had Q T Q mT<|gl 2 [0]<|Dv.lit aC ([a1]:List BA) (css:=[[vS a1]]) Q T eh U9 c9 z9 Q dc dc Q ⟨(cells_one (aj Q)),T⟩ Q Q Q<|gr H fun gi H=>ap aC 2 ([a1]:List BA) bY eh (.inr ⟨_,eh⟩) xH gi nofun fun va=>?_
  refine Dv.bZ had Q T Q<|fp had Q T Q mT<|sx 0 Q T Q Q (cells_one bQ) HZ Q Q Q nofun ?_
  refine .fin<|wr 7 64<|go 1<|Dv.bZ had Q T Q<|fp had Q T Q yA<|gl 3 [0]<|Dv.mup (jj:=3) ta.1 Q T Q Q Q Q s7 (dR U9) nofun<|.fin<|so<|wg (bK.shut (p:=p0_) (m:=(⟨pa.iE,pa.eJ++([a1]:List BA),mput pa.nX a1 ta.1⟩:bK)) (gb.1,gb.2.1,va,gb.2.2.2) had (pm 4 [0,1,2,3])) fun _ _=>?_
  cases H.out; exact et () 1 [0] 0
 refine wr 11 0<|go 1<|Dv.bZ haa Q T Q<|fp haa Q T Q yA<|gl 2 [1]<|Dv.mlk 0 Q T Q (ab 3 Q) Q s7 (dR U9) z3 (fun _=>Q)<|go 1<|eD Q T Q Q<|eD Q T Q Q<|go 2<|so<|ce H ?_ ?_ <;> intro H
 rotate_left
 ·
  refine WP.skip ?_
  have H:=H.out
  refine ng (bK.shut (p:=p0_) (m:=(⟨ta.2.2,a0.eJ,a0.nX⟩:bK)) (ga.1,ga.2.1,ga.2.2.1,ga.2.2.2) haa (pm 4 [1,0,2,3])) fun _ _=>?_
  exact jn (⟨ta.2.2,a0.eJ,a0.nX⟩:bK) H
 refine wr 7 0<|go 1<|Dv.bZ haa Q T Q<|fp haa Q T Q mT<|gl 2 [1]<|el H fun tc hae H=>o8 (B:=[own aC ga.2.2.1.1 a0.eJ]) 4 [2,0,1,3] (cL 115) (Pt.Bu _ (bA.c hae) (.cons (rR (ab 0 Q)) (.cons wc .nil)) oV) ?_
 refine go 1<|rg 12 2304<|go 2<|Dv.bZ haa Q T Q<|fp haa Q T Q mT<|gl 4 [1]<|el H fun te haf H=>cx 4 [2,0,1,3] (cL 116) (dS.c haf (p0_:=ga.2.2.1)) nofun fun gj _=>?_
 refine Dv.bZ haa Q T Q<|fp haa Q T Q mT<|sx 2 Q T Q Q (cells_one bQ) HZ Q Q Q nofun ?_
 refine .fin ?_
 have H:=H.out
 refine ng (bK.shut (p:=p0_) (m:=(⟨ta.2.2,te,a0.nX⟩:bK)) (ga.1,ga.2.1,gj,ga.2.2.2) haa (pm 4 [2,1,0,3])) fun _ _=>?_
 exact jn (⟨ta.2.2,te,a0.nX⟩:bK) H
theorem kz.c (h:kz.f a0=some r):Pt prog 49 [agg (ig.enc a0)] (vS r):=by
 refine pf func49 h fun R0 F H=>?_
 refine wr 2 1<|Dv.box Q T Q cA nofun fun ba=>go 1<|WP.seq<|sf [0]<|ce H ?_ ?_ <;> intro H
 rotate_left
 ·
  refine WP.skip<|WP.seq<|sf [0]<|ce H ?_ ?_ <;> intro H
  ·
   refine wr 4 0<|gl 2 [0]<|gr H fun ga H=>n9 Q Q Q (iB ga)<|gq 1 ?_
   cases H.out; exact ek 1
  refine WP.skip<|wr 4 0<|gl 2 [0]<|gr H fun gb H=>n9 Q Q Q (iB gb)<|gq 1 ?_
  cases H.out; exact ek 1
 refine so<|WP.iQ H id (fun pa=>[(1,bO ba),(3,vS pa)]) (fun pa=>[ay ba 116 [vI a0.aE,vS a0.fK.aa,vS a0.fK.ak,vS a0.fK.ag,vB a0.fK.au,vS a0.jG]]++F) (fun pa H=>?_) (fun H=>?_)
 rotate_left
 ·
  refine sf [0]<|ce H ?_ ?_ <;> intro H
  rotate_left
  ·
   refine WP.skip ?_
   have H:=H.out
   exact jn (⟨#[32,48]⟩:BA) H
  refine rg 1 0<|gq 1 ?_
  have H:=H.out
  exact jn (⟨#[32,49]⟩:BA) H
 refine wr 17 0<|gl 3 [0]<|gr H fun gi H=>n9 Q Q Q (iB gi)<|gr H fun gj H=>n9 Q Q Q (iB gj)<|gl 3 [0]<|gr H fun gk H=>n9 Q Q Q (iB gk)<|gr H fun gm H=>n9 Q Q Q (iB gm)<|gl 3 [0]<|gr H fun gn H=>n9 Q Q Q (iB gn)<|go 1<|gr H fun gu H=>n9 Q Q Q (iB gu)<|gq 1 ?_
 cases H.out; exact ek 1
end Go.Proofs.YtfknmdelgepbjaaGreatDoor
